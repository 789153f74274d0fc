/-
  From my old contracts (worlds and cells) to those of the logic, and back: what needs no program.
  Powers in a table and the values of terms, in plain Lean (layer 28).
  Walks in my logic: powers in a table, programs of terms (omega).
  Walk in my logic: machines for terms (omega.newMachine).
  Walk in my logic: machines for terms (run); the program of a term computes its value.
  The program of a term computes its value (layer 28), in plain Lean.
  Walk in my logic: visits of the nodes of a term (omega.visit) with a function value that has captured one or two variables.
  Walks in my logic: variables of terms, TermOne in terms (omega).
  Walks in my logic: validity and identity of tables (mult), Value (omega).
  Walks in my logic: closed sets, empty ranges (omega).
  Walk in my logic: the ranges of the variables (omega.rangesOf).
  Walk in my logic: the beginning of a search (omega.newHunt).
  Walks in my logic: the steps of a search (omega: values, advance, run).
  Walk in my logic: Violated (omega).
-/
import Derived.Test.YtgelfgpcnaeecaaGreatDoorZsad
import Derived.Test.YtgelfgpcnaeecaaGreatDoorZsao
import Derived.Test.YtgelfgpcnaeecaaGreatDoorZsaq
import Derived.Test.YtgelfgpcnaeecaaGreatDoorZsar
namespace Go.Proofs.YtgelfgpcnaeecaaGreatDoor.M
open Go.RowKit
set_option linter.unusedVariables false
set_option linter.unusedSimpArgs false
set_option maxRecDepth 100000
set_option maxHeartbeats 32000000

theorem zPl {m : Mem} {w : World} {v : Value} {z : Nat} {cs : List T} (hm : ∀ b o u,m b o = some u -> w.cell? ⟨b,o,none⟩ = some u) (h : Rep m v (.sl z cs)) (hz1 : z = 1) :
  ∃ a cap,v = .slice a cs.length cap /\ cs.length <= cap /\ cap <= 9223372036854775807 /\ (0 < cs.length -> ∃ b o,a = some ⟨b,o,none⟩ /\ ∀ i c,cs[i]? = some c -> ∃ u,w.cell? ⟨b,o + i,none⟩ = some u /\ Rep m u c):=by
 cases h with
 | nil=>exact ⟨none,0,rfl,by simp,by omega,fun h=>by simp at h⟩
 | emp a=>exact ⟨some a,0,rfl,by simp,by omega,fun h=>by simp at h⟩
 | sl b o n cap z cs vs hz hn h1 h2 hc hr =>
  subst hz1
  have hn : cs.length = n:=by omega
  subst hn
  exact ⟨_,cap,rfl,h1,h2,fun _=>⟨b,o,rfl,fun i c hi=>⟨vs i,hm _ _ _ (hc i c hi),hr i c hi⟩⟩⟩
theorem zN3 {m : Mem} {w : World} {v : Value} {xs : List Int} (hm : ∀ b o u,m b o = some u -> w.cell? ⟨b,o,none⟩ = some u) (h : Rep m v (ints xs)) : Ints w v xs:=by
 obtain ⟨a,cap,rfl,h1,h2,h3⟩:=zPl hm h rfl
 simp only [List.length_map] at h1 h3 ⊢
 refine ⟨a,cap,rfl,h1,h2,fun h0=>?_⟩
 obtain ⟨b,o,rfl,hc⟩:=h3 h0
 refine ⟨b,o,rfl,fun i hi=>?_⟩
 have hi : i < xs.length:=hi
 obtain ⟨u,hu,hr⟩:=hc i (.int .i64 xs[i]) (by simp [hi])
 rw [hu]
 cases hr
 simp [zAC,hi]
theorem zNv {m : Mem} {w : World} {v : Value} {t : List (List Int)} (hm : ∀ b o u,m b o = some u -> w.cell? ⟨b,o,none⟩ = some u) (h : Rep m v (rows t)) : zO1 w v t:=by
 obtain ⟨a,cap,rfl,h1,h2,h3⟩:=zPl hm h rfl
 simp only [List.length_map] at h1 h3 ⊢
 refine ⟨a,cap,rfl,h1,h2,fun h0=>?_⟩
 obtain ⟨b,o,rfl,hc⟩:=h3 h0
 refine ⟨b,o,rfl,fun i hi=>?_⟩
 have hi : i < t.length:=hi
 obtain ⟨u,hu,hr⟩:=hc i (ints t[i]) (by simp [hi])
 refine ⟨u,hu,?_⟩
 have:=zN3 hm hr
 simpa [zAC,hi] using this
theorem zOv {lo : Nat} {V : Nat -> Prop} {ob : Nat -> Option (Value × Nat)} {w : World} {p : Nat} : ∀ b o u,zEe lo V ob w p b o = some u -> w.cell? ⟨b,o,none⟩ = some u:=fun b o u h=>zCG h
theorem MR.after {w w' : World} {V U : Nat -> Prop} {ob : Nat -> Option (Value × Nat)} (h : MR w V (OB ob) U (fun k=>([] : List AObj)[k]?) ob w) (hb : Below w.heap.size w w') : MR w V (OB ob) U (fun k=>([] : List AObj)[k]?) ob w' :=
 ⟨h.live,fun id o hi=>by simp at hi,h.sep,h.new,Onl.zFL hb,h.gl⟩
theorem vs1 {vs : Array Value} (hn : vs.size = 1) : vs = #[vs.getD 0 undef]:=by
 apply Array.ext
 ·simpa using hn
 ·intro i h1 h2
  have : i < 1:=by simpa using h2
  obtain rfl : i = 0:=by omega
  simp [Array.getD,h1]
theorem zSZ {E : Ev} {f : Nat -> Value} : ∀ {l : List AV},(∀ a ∈ l,ghA1 a = .any) -> GhR E f (ghA l):=fun {l} h i c hi=>by
 unfold ghA at hi
 rw [List.getElem?_map] at hi
 cases e : l[i]? with
 | none=>rw [e] at hi; cases hi
 | some a =>
  rw [e] at hi
  simp only [Option.map_some,Option.some.injEq] at hi
  rw [h a (List.mem_of_getElem? e)] at hi
  subst hi
  exact .any _
structure TbL (t : List (List Int)) (n : Nat) (T : Nat -> Nat -> Nat) : Prop where
 len : t.length = n
 row : ∀ r (h : r < t.length),t[r].length = n
 val : ∀ r c (h : r < t.length) (h2 : c < t[r].length),t[r][c] = (T r c : Int)
 lt : ∀ r c,r < n -> c < n -> T r c < n
theorem zFS {α : Type} [Inhabited α] {l : List α} {i : Nat} (h : i < l.length) : zAC l i = l[i]:=by simp [zAC,h]
theorem TbL.of {t : List (List Int)} (h : zCb t = 0) : TbL t t.length (zR t):=by
 obtain ⟨h0,h4,hr⟩:=zBg (zDl h).1
 refine ⟨rfl,fun r h=>?_,fun r c h h2=>?_,fun r c h h2=>?_⟩
 ·have:=(hr r h).1
  rw [zFS h] at this
  exact this
 ·have:=(hr r h).2 c (by rw [zFS h]; exact h2)
  unfold zR
  rw [zFS h] at this ⊢
  rw [zFS h2] at this ⊢
  omega
 ·have:=(hr r h).2 c (by have:=(hr r h).1; simp only [lnx] at this ⊢; omega)
  unfold zR
  simp only [lnx] at this
  omega
theorem zFp {t : List (List Int)} (h : zCb t = 0) : zBA t.length (zR t):=(zDl h).2
theorem zCI {t : List (List Int)} (h : zCb t = 0) : 0 < t.length /\ t.length <= 400:=⟨(zBg (zDl h).1).1,(zBg (zDl h).1).2.1⟩
def omF (T : Nat -> Nat -> Nat) (x : Nat) : Nat -> Nat -> Nat
 | 0,e=>e
 | f + 1,e=>if T e e = e then e else omF T x f (T e x)
def omT (T : Nat -> Nat -> Nat) (n x : Nat) : Nat:=omF T x n x
def zSr (T : Nat -> Nat -> Nat) (e g : Nat) : Nat -> Nat -> Nat
 | 0,y=>y
 | f + 1,y=>if T y g = e then y else zSr T e g f (T y g)
def itT (T : Nat -> Nat -> Nat) (x : Nat) : Nat -> Nat -> Nat
 | 0,y=>y
 | k + 1,y=>T (itT T x k y) x
def zHV (T : Nat -> Nat -> Nat) (n x : Nat) (m : Int) : Nat:=if m < 0 then zSr T (omT T n x) (T (omT T n x) x) n (omT T n x) else itT T x m.toNat (omT T n x)
def pw (T : Nat -> Nat -> Nat) (x : Nat) (k : Nat) : Nat:=itT T x k x
section
variable {T : Nat -> Nat -> Nat} {n : Nat}
theorem zDv (x k : Nat) : pw T x (k + 1) = T (pw T x k) x:=rfl
theorem zEc (hT : ∀ r c,r < n -> c < n -> T r c < n) {x y : Nat} (hx : x < n) (hy : y < n) : ∀ k,itT T x k y < n
 | 0=>hy
 | k + 1=>hT _ _ (zEc hT hx hy k) hx
theorem zMT (hT : ∀ r c,r < n -> c < n -> T r c < n) {x : Nat} (hx : x < n) (k : Nat) : pw T x k < n:=zEc hT hx hx k
theorem zE1 (hT : ∀ r c,r < n -> c < n -> T r c < n) (hA : zBA n T) {x y : Nat} (hx : x < n) (hy : y < n) : ∀ k,T y (pw T x k) = itT T x (k + 1) y
 | 0=>rfl
 | k + 1=>by
  rw [zDv,← hA y _ x hy (zMT hT hx k) hx,zE1 hT hA hx hy k]
  rfl
theorem zHW (x y : Nat) (j : Nat) : ∀ k,itT T x k (itT T x j y) = itT T x (j + k) y
 | 0=>rfl
 | k + 1=>by
  show T (itT T x k (itT T x j y)) x = T (itT T x (j + k) y) x
  rw [zHW x y j k]
theorem zRv (hT : ∀ r c,r < n -> c < n -> T r c < n) (hA : zBA n T) {x : Nat} (hx : x < n) (j k : Nat) : T (pw T x j) (pw T x k) = pw T x (j + k + 1):=by
 rw [zE1 hT hA hx (zMT hT hx j)]
 exact zHW x x j (k + 1)
theorem zSk (x j k : Nat) : itT T x k (pw T x j) = pw T x (j + k):=zHW x x j k
theorem zKA {l : List Nat} : l.Nodup -> (∀ x ∈ l,x < n) -> l.length <= n:=by
 induction n generalizing l with
 | zero =>
  intro _ h
  cases l with
  | nil=>simp
  | cons a r=>exact absurd (h a (by simp)) (by omega)
 | succ m ih =>
  intro hd h
  by_cases hm : m ∈ l
  ·have h1:=ih (l:=l.erase m) (hd.erase m) (fun x hx=>by
    have h2:=h x (List.mem_of_mem_erase hx)
    have h3 : x ≠ m:=fun e=>by
     subst e
     exact (List.Nodup.not_mem_erase hd) hx
    omega)
   rw [List.length_erase_of_mem hm] at h1
   omega
  ·have h1:=ih (l:=l) hd (fun x hx=>by
    have h2:=h x hx
    have h3 : x ≠ m:=fun e=>hm (e ▸ hx)
    omega)
   omega
theorem zSW (hT : ∀ r c,r < n -> c < n -> T r c < n) {x : Nat} (hx : x < n) : ∃ i j,i < j /\ j <= n /\ pw T x i = pw T x j:=by
 refine Classical.byContradiction fun hno=>?_
 have hd : ((List.range (n + 1)).map (pw T x)).Nodup:=by
  rw [List.nodup_iff_pairwise_ne,List.pairwise_map]
  refine List.Pairwise.imp_of_mem (R:=fun a b=>a < b) (fun {a b} ha hb hlt e=>hno ⟨a,b,hlt,?_,e⟩) List.pairwise_lt_range
  have:=List.mem_range.1 hb
  omega
 have:=zKA (n:=n) hd (fun y hy=>by
  obtain ⟨k,_,rfl⟩:=List.mem_map.1 hy
  exact zMT hT hx k)
 simp at this
 omega
theorem zP0 (hT : ∀ r c,r < n -> c < n -> T r c < n) (hA : zBA n T) {x : Nat} (hx : x < n) : ∃ k,k < n /\ T (pw T x k) (pw T x k) = pw T x k:=by
 obtain ⟨i,j,hij,hj,he⟩:=zSW hT hx
 have hper : ∀ m,i <= m -> pw T x (m + (j - i)) = pw T x m:=fun m hm=>by
  have h1:=zSk (T:=T) x i (m - i)
  have h2:=zSk (T:=T) x j (m - i)
  rw [he,h2] at h1
  rw [show m + (j - i) = j + (m - i) by omega,h1,show i + (m - i) = m by omega]
 have hperq : ∀ q m,i <= m -> pw T x (m + q * (j - i)) = pw T x m:=fun q=>by
  induction q with
  | zero=>intro m _; simp
  | succ q ih =>
   intro m hm
   rw [show m + (q + 1) * (j - i) = (m + q * (j - i)) + (j - i) by rw [Nat.add_mul]; omega,hper _ (by omega),ih m hm]
 obtain ⟨p,hp⟩ : ∃ p,p = j - i:=⟨_,rfl⟩
 rw [← hp] at hperq
 have hp0 : 0 < p:=by omega
 obtain ⟨q,hq⟩ : ∃ q,q = (i + p) / p:=⟨_,rfl⟩
 have h1 : q * p <= i + p:=by rw [hq]; exact Nat.div_mul_le_self _ _
 have h2 : i + p < (q + 1) * p:=by rw [hq,← Nat.div_lt_iff_lt_mul hp0]; omega
 rw [Nat.add_mul] at h2
 refine ⟨q * p - 1,by omega,?_⟩
 rw [zRv hT hA hx,show q * p - 1 + (q * p - 1) + 1 = (q * p - 1) + q * p by omega]
 exact hperq q _ (by omega)
theorem zBC (hT : ∀ r c,r < n -> c < n -> T r c < n) (hA : zBA n T) {x : Nat} (hx : x < n) : ∃ k,k < n /\ omT T n x = pw T x k /\ T (pw T x k) (pw T x k) = pw T x k /\ ∀ j,j < k -> T (pw T x j) (pw T x j) ≠ pw T x j:=by
 obtain ⟨k0,hk0,hi0⟩:=zP0 hT hA hx
 have key : ∀ f i,i + f = n -> (∀ j,j < i -> T (pw T x j) (pw T x j) ≠ pw T x j) -> ∃ k,k < n /\ omF T x f (pw T x i) = pw T x k /\ T (pw T x k) (pw T x k) = pw T x k /\ ∀ j,j < k -> T (pw T x j) (pw T x j) ≠ pw T x j:=by
  intro f
  induction f with
  | zero =>
   intro i hi hno
   exact absurd hi0 (hno k0 (by omega))
  | succ f ih =>
   intro i hi hno
   rw [omF]
   by_cases h : T (pw T x i) (pw T x i) = pw T x i
   ·rw [if_pos h]
    exact ⟨i,by omega,rfl,h,hno⟩
   ·rw [if_neg h,← zDv (T:=T) x i]
    refine ih (i + 1) (by omega) (fun j hj=>?_)
    by_cases hji : j = i
    ·rw [hji]; exact h
    ·exact hno j (by omega)
 exact key n 0 (by omega) (fun j hj=>by omega)
theorem zJg (hT : ∀ r c,r < n -> c < n -> T r c < n) (hA : zBA n T) {x : Nat} (hx : x < n) : omT T n x < n:=by
 obtain ⟨k,_,h,_⟩:=zBC hT hA hx
 rw [h]; exact zMT hT hx k
theorem zJd (hT : ∀ r c,r < n -> c < n -> T r c < n) (hA : zBA n T) {x : Nat} (hx : x < n) : T (omT T n x) (omT T n x) = omT T n x:=by
 obtain ⟨k,_,h,h2,_⟩:=zBC hT hA hx
 rw [h]; exact h2
theorem zJz (hT : ∀ r c,r < n -> c < n -> T r c < n) (hA : zBA n T) {x : Nat} (hx : x < n) : ∃ k,k < n /\ zSr T (omT T n x) (T (omT T n x) x) n (omT T n x) = itT T x k (omT T n x) /\ T (itT T x k (omT T n x)) x = omT T n x /\ ∀ j,j < k -> T (itT T x j (omT T n x)) x ≠ omT T n x:=by
 obtain ⟨k0,hk0,h1,h2,-⟩:=zBC hT hA hx
 have he:=zJg hT hA hx
 have hi:=zJd hT hA hx
 generalize omT T n x = e at h1 he hi ⊢
 have hk : T (itT T x k0 e) x = e:=by
  have:=zE1 hT hA hx he k0
  rw [← h1,hi] at this
  exact this.symm
 -- right multiplication by e keeps e x^j
 have hr : ∀ j,T (itT T x j e) e = itT T x j e:=fun j=>by
  have hc : T (itT T x j e) e = itT T x (k0 + 1 + j) e:=by
   have h3:=zE1 hT hA hx (zEc hT hx he j) k0
   rw [← h1] at h3
   rw [h3,zHW]
   congr 1; omega
  rw [hc]
  have h4 : itT T x (k0 + 1) e = e:=hk
  have h5:=zHW (T:=T) x e (k0 + 1) j
  rw [h4] at h5
  exact h5.symm
 have hg : ∀ j,T (itT T x j e) (T e x) = T (itT T x j e) x:=fun j=>by
  rw [← hA _ e x (zEc hT hx he j) he hx,hr j]
 have key : ∀ f i,i + f = n -> (∀ j,j < i -> T (itT T x j e) x ≠ e) -> ∃ k,k < n /\ zSr T e (T e x) f (itT T x i e) = itT T x k e /\ T (itT T x k e) x = e /\ ∀ j,j < k -> T (itT T x j e) x ≠ e:=by
  intro f
  induction f with
  | zero =>
   intro i hi hno
   exact absurd hk (hno k0 (by omega))
  | succ f ih =>
   intro i hi hno
   rw [zSr,hg i]
   by_cases h : T (itT T x i e) x = e
   ·rw [if_pos h]
    exact ⟨i,by omega,rfl,h,hno⟩
   ·rw [if_neg h]
    refine ih (i + 1) (by omega) (fun j hj=>?_)
    by_cases hji : j = i
    ·rw [hji]; exact h
    ·exact hno j (by omega)
 exact key n 0 (by omega) (fun j hj=>by omega)
theorem zTw (hT : ∀ r c,r < n -> c < n -> T r c < n) (hA : zBA n T) {x : Nat} (hx : x < n) (j : Nat) : T (itT T x j (omT T n x)) (T (omT T n x) x) = T (itT T x j (omT T n x)) x:=by
 obtain ⟨k0,hk0,h1,h2,-⟩:=zBC hT hA hx
 have he:=zJg hT hA hx
 have hi:=zJd hT hA hx
 generalize omT T n x = e at h1 he hi ⊢
 have hk : itT T x (k0 + 1) e = e:=by
  have:=zE1 hT hA hx he k0
  rw [← h1,hi] at this
  exact this.symm
 have hr : T (itT T x j e) e = itT T x j e:=by
  have h3:=zE1 hT hA hx (zEc hT hx he j) k0
  rw [← h1] at h3
  rw [h3,zHW]
  have h5:=zHW (T:=T) x e (k0 + 1) j
  rw [hk] at h5
  rw [h5]
  congr 1; omega
 rw [← hA _ e x (zEc hT hx he j) he hx,hr]
theorem zQl (hT : ∀ r c,r < n -> c < n -> T r c < n) (hA : zBA n T) {x : Nat} (hx : x < n) (m : Int) : zHV T n x m < n:=by
 unfold zHV
 have he:=zJg hT hA hx
 split
 ·obtain ⟨k,_,h,_⟩:=zJz hT hA hx
  rw [h]; exact zEc hT hx he k
 ·exact zEc hT hx he _
end
mutual
def Tm.ev (T : Nat -> Nat -> Nat) (n one : Nat) (v : Nat -> Nat) : Tm -> Nat
 | .mk o m l=>if o = 1 then one else if o = 2 then v m.toNat else if o = 4 then zHV T n (evL T n one v none l) m else evL T n one v none l
def evL (T : Nat -> Nat -> Nat) (n one : Nat) (v : Nat -> Nat) : Option Nat -> List Tm -> Nat
 | acc,[]=>acc.getD 0
 | none,a :: r=>evL T n one v (some (a.ev T n one v)) r
 | some y,a :: r=>evL T n one v (some (T y (a.ev T n one v))) r
end
theorem TbL.get {tb : List (List Int)} {n : Nat} {T : Nat -> Nat -> Nat} (ht : TbL tb n T) {a b : Nat} (ha : a < n) (hb : b < n) : ∃ (h : a < tb.length) (h2 : b < tb[a].length),tb[a][b] = (T a b : Int):=by
 have h : a < tb.length:=by rw [ht.len]; exact ha
 have h2 : b < tb[a].length:=by rw [ht.row a h]; exact hb
 exact ⟨h,h2,ht.val a b h h2⟩
theorem zOy (tb : List (List Int)) (n : Nat) (T : Nat -> Nat -> Nat) (ht : TbL tb n T) (hA : zBA n T) (hn : n <= 1000) (x : Nat) (hx : x < n) (m : Int) (hm : -1 <= m) (hm9 : m <= 9) :
  FnA Tryz.prog 107 [.t 0 (rows tb),.t 2 (.int .i64 (x : Nat)),.t 2 (.int .i64 m)] (.t 2 (.int .i64 (zHV T n x m : Nat))):=by
 obtain ⟨k0,hk0,hom,hid,hno⟩:=zBC ht.lt hA hx
 have hel:=zJg ht.lt hA hx
 refine fI 66 #[.tmp 6] Tryz.func107 rfl ?_
 refine rg0 ?_
 refine rg0 ?_
 refine zA ?_
 refine zB ?_
 refine awp_loop (fun k : Nat=>mkS [(0,.t 0 (rows tb)),(1,.t 2 (.int .i64 (x : Nat))),(2,.t 2 (.int .i64 m)),(7,.t 2 (.int .i64 (pw T x k : Nat)))] [] 0 66 [.any,.any,.any]) (fun k=>k <= k0) (fun k=>k0 - k) ?_ ?_
 ·refine ⟨0,by omega,?_⟩
  refine zQ [] rfl ?_ ?_ ?_ ?_
  all_goals try simp [ints,pw,itT,rows,ints]
 intro k hk
 have hpl:=zMT ht.lt hx k
 obtain ⟨g1,g2,g3⟩:=ht.get hpl hpl
 obtain ⟨g4,g5,g6⟩:=ht.get hpl hx
 have hps:=zDv (T:=T) x k
 refine zA ?_
 by_cases he : T (pw T x k) (pw T x k) = pw T x k
 case neg =>
  have hlt : k < k0:=by
   rcases Nat.lt_or_ge k k0 with h | h
   ·exact h
   ·obtain rfl : k = k0:=by omega
    exact absurd hid he
  generalize pw T x (k + 1) = e1 at hps
  generalize hpk : pw T x k = e at hpl g1 g2 g3 g4 g5 g6 hps he ⊢
  refine rg1 (an @g1 (an @g2 @g3)) ?_
  refine cK1 @he ?_
  refine zB ?_
  refine rr1 (an @g4 (an @g5 @g6)) ?_
  refine ⟨k + 1,by omega,by omega,?_⟩
  exact kw1 [] (an @rows.eq_1 (an @zDv @hpk))
 obtain rfl : k = k0:=by
  rcases Nat.lt_or_ge k k0 with h | h
  ·exact absurd he (hno k h)
  ·omega
 rw [← hom] at he ⊢
 clear hps g1 g2 g3 g4 g5 g6 hpl
 obtain ⟨g1,g2,g3⟩:=ht.get hel hel
 obtain ⟨g4,g5,g6⟩:=ht.get hel hx
 refine rg1 (an @g1 (an @g2 @g3)) ?_
 refine cF1 @he ?_
 refine zG ?_
 show awp _ _ _ _
 refine rg0 ?_
 refine zA ?_
 refine rg0 ?_
 by_cases hneg : m < 0
 ·obtain ⟨j0,hj0,hin,hjd,hjn⟩:=zJz ht.lt hA hx
  have hres : zHV T n x m = itT T x j0 (omT T n x):=by unfold zHV; rw [if_pos hneg,hin]
  have hg:=zTw ht.lt hA hx
  have hgl:=ht.lt _ _ hel hx
  rw [hres]
  clear hin
  generalize omT T n x = e at hom hel g1 g2 g3 g4 g5 g6 he hjd hjn hg hgl ⊢
  refine cT1 @hneg ?_
  refine rg1 (an @g4 (an @g5 @g6)) ?_
  refine zA ?_
  refine zB ?_
  refine awp_loop (fun j : Nat=>mkS [(0,.t 0 (rows tb)),(7,.t 2 (.int .i64 (e : Nat))),(8,.t 2 (.int .i64 (itT T x j e : Nat))),(9,.t 2 (.int .i64 (T e x : Nat)))] [] 0 66 [.any,.any,.any]) (fun j=>j <= j0) (fun j=>j0 - j) ?_ ?_
  ·refine ⟨0,by omega,?_⟩
   refine zQ [] rfl ?_ ?_ ?_ ?_
   all_goals try simp [ints,rows,ints,itT]
  intro j hj
  have hyl:=zEc ht.lt hx hel j
  obtain ⟨b1,b2,b3⟩:=ht.get hyl hgl
  rw [hg j] at b3
  refine zA ?_
  by_cases hq : T (itT T x j e) x = e
  ·obtain rfl : j = j0:=by
    rcases Nat.lt_or_ge j j0 with h | h
    ·exact absurd hq (hjn j h)
    ·omega
   refine rg1 (an @b1 (an @b2 @b3)) ?_
   refine cF1 @hq ?_
   refine zG ?_
   show awp _ _ _ _
   refine rg0 ?_
   exact zC rt0
  ·have hlt : j < j0:=by
    rcases Nat.lt_or_ge j j0 with h | h
    ·exact h
    ·obtain rfl : j = j0:=by omega
     exact absurd hjd hq
   refine rg1 (an @b1 (an @b2 @b3)) ?_
   refine cK1 @hq ?_
   refine zB ?_
   refine rr1 (an @b1 (an @b2 @b3)) ?_
   refine ⟨j + 1,by omega,by omega,?_⟩
   refine zQ [] rfl ?_ ?_ ?_ ?_
   all_goals try simp [ints,rows,ints,itT]
 ·have hres : zHV T n x m = itT T x m.toNat (omT T n x):=by unfold zHV; rw [if_neg hneg]
  rw [hres]
  generalize omT T n x = e at hom hel g1 g2 g3 g4 g5 g6 he ⊢
  obtain ⟨q,rfl⟩ : ∃ q : Nat,m = (q : Int):=⟨m.toNat,by omega⟩
  rw [Int.toNat_natCast]
  refine cS1 @hneg ?_
  refine zA ?_
  refine rg0 ?_
  refine zB ?_
  refine awp_loop (fun j : Nat=>mkS [(0,.t 0 (rows tb)),(1,.t 2 (.int .i64 (x : Nat))),(8,.t 2 (.int .i64 (itT T x j e : Nat))),(54,.t 2 (.int .i64 (q : Nat))),(55,.t 2 (.int .i64 (j : Nat)))] [] 0 66 [.any,.any,.any]) (fun j=>j <= q) (fun j=>q - j) ?_ ?_
  ·refine ⟨0,by omega,?_⟩
   refine zQ [] rfl ?_ ?_ ?_ ?_
   all_goals try simp [ints,rows,ints,itT]
  intro j hj
  have hyl:=zEc ht.lt hx hel j
  obtain ⟨b1,b2,b3⟩:=ht.get hyl hx
  refine rg0 ?_
  refine zA ?_
  by_cases hjq : j < q
  ·refine cK1 @hjq ?_
   refine zA ?_
   refine zB ?_
   refine rr1 (an @b1 (an @b2 @b3)) ?_
   show awp _ _ _ _
   refine rr0 ?_
   refine ⟨j + 1,by omega,by omega,?_⟩
   refine zQ [] rfl ?_ ?_ ?_ ?_
   all_goals try simp [ints,rows,ints,itT]
  ·obtain rfl : j = q:=by omega
   refine cF0 ?_
   refine zG ?_
   show awp _ _ _ _
   refine rg0 ?_
   exact zC rt0
def pgC (p : List (Int × Int)) : List T:=p.flatMap fun s=>[.int .i64 s.1,.int .i64 s.2]
def pgT (p : List (Int × Int)) : T:=.sl 2 (pgC p)
@[simp] theorem zRT : ∀ p : List (Int × Int),(pgC p).length = p.length * 2
 | []=>rfl
 | s :: p=>by
  show (pgC p).length + 2 = _
  rw [zRT p,List.length_cons]; omega
theorem zTb (s : Int × Int) : pgC [s] = [.int .i64 s.1,.int .i64 s.2]:=rfl
theorem zDN (p q : List (Int × Int)) : pgC (p ++ q) = pgC p ++ pgC q:=by simp [pgC]
mutual
def Tm.cmp : Tm -> List (Int × Int)
 | .mk o n l=>if o = 1 then [(0,0)] else if o = 2 then [(1,n)] else cmpL true l ++ (if o = 4 then [(3,n)] else [])
def cmpL : Bool -> List Tm -> List (Int × Int)
 | _,[]=>[]
 | fst,a :: r=>a.cmp ++ (if fst then [] else [(2,0)]) ++ cmpL false r
end
theorem zSo (t : Tm) : t.cmp = if t.op = 1 then [(0,0)] else if t.op = 2 then [(1,t.n)] else cmpL true t.args ++ (if t.op = 4 then [(3,t.n)] else []):=by
 obtain ⟨o,n,l⟩:=t
 rw [Tm.cmp]
 rfl
theorem zJp : ∀ (fst : Bool) (l r : List Tm),cmpL fst (l ++ r) = cmpL fst l ++ cmpL (fst && decide (l = [])) r
 | fst,[],r=>by
  rw [show cmpL fst [] = [] from by rw [cmpL]]
  simp
 | fst,a :: l,r=>by
  rw [List.cons_append,cmpL,cmpL,zJp false l r]
  simp
theorem zOL {l : List Tm} {k : Nat} (h : k < l.length) : cmpL true (l.take (k + 1)) = cmpL true (l.take k) ++ l[k].cmp ++ (if k = 0 then [] else [(2,0)]):=by
 rw [List.take_succ_eq_append_getElem h,zJp,cmpL,show cmpL false [] = [] from by rw [cmpL]]
 by_cases hk : k = 0
 ·subst hk; simp
 ·have : l.take k ≠ []:=fun e=>by
   have:=congrArg List.length e
   rw [List.length_take,List.length_nil] at this
   omega
  simp [this,hk]
mutual
theorem zDH : ∀ t : Tm,t.cmp.length + 1 <= 2 * t.sz
 | .mk o n l=>by
  have:=zFn true l
  rw [Tm.cmp,Tm.sz]
  split
  ·simp; omega
  ·split
   ·simp; omega
   ·split
    ·simp; omega
    ·simp; omega
theorem zFn : ∀ (fst : Bool) (l : List Tm),(cmpL fst l).length <= 2 * szL l
 | fst,[]=>by rw [cmpL,szL]; simp
 | fst,a :: r=>by
  have:=zDH a
  have:=zFn false r
  rw [cmpL,szL]
  cases fst <;> simp <;> omega
end
def pgO (p : List (Int × Int)) : AObj:=.row 184 2 2 (pgC p)
def teO (t : Tm) : AObj:=.box 69 [.t 2 (.int .i64 t.op),.t 2 (.int .i64 t.n),.t 0 (.sl 3 (cellsL t.args))]
theorem zJb (h : 184 < Tryz.prog.types.size) : (Tryz.prog.types[184]'h).size = 2:=by rfl
theorem zE8 : ∀ t : Tm,t.ok = true -> t.sz <= 1000 -> FnA Tryz.prog 68 [tmV 0 t] (.t 2 (pgT t.cmp)):=by
 intro t
 induction hsz : t.sz using Nat.strongRecOn generalizing t with
 | _ q ih =>
 intro ho hs1
 have hwf : t.wf = true:=by rw [ok_eq,Bool.and_eq_true] at ho; exact ho.1
 have hokl : zB0 t.args = true:=by rw [ok_eq,Bool.and_eq_true] at ho; exact ho.2
 unfold Tm.wf at hwf
 rw [decide_eq_true_iff] at hwf
 have hsz2:=zHm t
 have hsl:=zGR t.args
 rw [zSo]
 unfold pgT
 refine fI 47 #[.tmp 2] Tryz.func68 rfl ?_
 refine rg1 @tmV.eq_1 ?_
 refine zA ?_
 refine rg0 ?_
 refine zB ?_
 refine rg0 ?_
 by_cases e1 : t.op = 1
 ·refine cT1 @e1 ?_
  refine rg1 @zJb ?_
  refine zC ?_
  rw [if_pos e1]
  refine ⟨⟨.inr rfl,_,[],(by first | rfl | (simp [ints,rows,scal,tmV,pgC]; rfl)),?_,?_,?_,?_⟩,?_⟩
  all_goals try simp [ints,rows,scal,tmV,pgC]
 refine cF1 @e1 ?_
 refine rg0 ?_
 by_cases e2 : t.op = 2
 ·refine cT1 @e2 ?_
  refine rg1 @zJb ?_
  refine zC ?_
  rw [if_neg e1,if_pos e2]
  refine ⟨⟨.inr rfl,_,[],(by first | rfl | (simp [ints,rows,scal,tmV,pgC]; rfl)),?_,?_,?_,?_⟩,?_⟩
  all_goals try simp [ints,rows,scal,tmV,pgC]
 refine cY1 @e2 ?_
 show awp _ _ _ _
 rw [if_neg e1,if_neg e2]
 refine rg0 ?_
 refine zA ?_
 refine rg0 ?_
 refine zB ?_
 refine awp_loop (fun k : Nat=>mkS [(1,.ptr 0 0 3),(3,.own 1 ((cmpL true (t.args.take k)).length * 2)),(19,.t 0 (.sl 3 (cellsL t.args))),(20,.t 2 (.int .i64 t.args.length)),(21,.t 2 (.int .i64 k))] [(0,teO t),(1,pgO (cmpL true (t.args.take k)))] 2 47 [.any]) (fun k=>k <= t.args.length) (fun k=>t.args.length - k) ?_ ?_
 ·refine ⟨0,by omega,?_⟩
  refine zQ [(0,some 0),(1,none)] rfl ?_ ?_ ?_ ?_
  all_goals try simp [ints,teO,pgO,cmpL,pgC,tmV]
 intro k hk
 have hcl:=zFn true (t.args.take k)
 have hslk:=zES t.args k
 refine rg0 ?_
 refine zA ?_
 by_cases hkl : k < t.args.length
 ·obtain ⟨a,ha⟩ : ∃ a,a = t.args[k]:=⟨_,rfl⟩
  have hcut:=zAv t.args k hkl
  rw [← ha,Tm.zAi] at hcut
  have ham : a ∈ t.args:=by rw [ha]; exact List.getElem_mem hkl
  have htc:=zOL hkl
  rw [← ha] at htc
  have hlt:=zJm ham
  have hac:=zDH a
  have hA:=ih a.sz (by omega) a rfl (zCm.1 hokl a ham) (by omega)
  unfold pgT at hA
  refine cK1 @hkl ?_
  refine zA ?_
  refine zB ?_
  refine rg1 (an @hcut (an @hkl (an @teO.eq_1 @pgO.eq_1))) ?_
  refine rc1 hA (an @teO.eq_1 (an @pgO.eq_1 @tmV.eq_1)) ?_
  refine rg1 (an @teO.eq_1 @pgO.eq_1) ?_
  by_cases h0 : k = 0
  ·subst h0
   refine cY0 ?_
   show awp _ _ _ _
   refine rr1 (an @teO.eq_1 @pgO.eq_1) ?_
   refine ⟨1,by omega,by omega,?_⟩
   rw [htc]
   refine zQ [(0,some 0),(1,some 1)] rfl ?_ ?_ ?_ ?_
   all_goals try simp [ints,teO,pgO,zDN]
   all_goals (try omega)
  ·have h0' : (0 : Int) < (k : Int):=by omega
   refine cT1 @h0' ?_
   refine rr1 (an @teO.eq_1 (an @pgO.eq_1 @zJb)) ?_
   show awp _ _ _ _
   refine rr1 (an @teO.eq_1 @pgO.eq_1) ?_
   refine ⟨k + 1,by omega,by omega,?_⟩
   rw [htc,if_neg h0]
   refine zQ [(0,some 0),(1,some 1)] rfl ?_ ?_ ?_ ?_
   all_goals try simp [ints,teO,pgO,zDN,zTb]
   all_goals (try omega)
 ·obtain rfl : k = t.args.length:=by omega
  rw [List.take_length] at hcl ⊢
  refine cF0 ?_
  refine zG ?_
  show awp _ _ _ _
  refine zA ?_
  refine rg1 (an @teO.eq_1 @pgO.eq_1) ?_
  by_cases e4 : t.op = 4
  ·rw [if_pos e4]
   refine cT1 @e4 ?_
   refine rr1 (an @teO.eq_1 (an @pgO.eq_1 @zJb)) ?_
   show awp _ _ _ _
   refine rg1 (an @teO.eq_1 @pgO.eq_1) ?_
   refine zC ?_
   refine ⟨⟨.inr rfl,_,[],(by first | rfl | (simp [ints,rows,scal,teO,pgO,zDN,zTb,tmV]; rfl)),?_,?_,?_,?_⟩,?_⟩
   all_goals try simp [ints,rows,scal,teO,pgO,zDN,zTb,tmV]
   all_goals (try omega)
  ·rw [if_neg e4,List.append_nil]
   refine cS1 @e4 ?_
   refine rg1 (an @teO.eq_1 @pgO.eq_1) ?_
   refine zC ?_
   refine ⟨⟨.inr rfl,_,[],(by first | rfl | (simp [ints,rows,scal,teO,pgO,zDN,tmV]; rfl)),?_,?_,?_,?_⟩,?_⟩
   all_goals try simp [ints,rows,scal,teO,pgO,zDN,tmV]
theorem zIE : ∀ (p : List (Int × Int)) (i : Nat) (h : i < p.length),((pgC p).drop (i * 2)).take 2 = [.int .i64 p[i].1,.int .i64 p[i].2]
 | s :: p,0,h=>rfl
 | s :: p,i + 1,h=>by
  show (([T.int .i64 s.1,.int .i64 s.2] ++ pgC p).drop ((i + 1) * 2)).take 2 = _
  rw [show (i + 1) * 2 = ([T.int .i64 s.1,T.int .i64 s.2] : List T).length + i * 2 by simp; omega,List.drop_append]
  simp only [List.drop_eq_nil_of_le (show ([T.int .i64 s.1,T.int .i64 s.2] : List T).length <= ([T.int .i64 s.1,T.int .i64 s.2] : List T).length + i * 2 by omega),List.nil_append,Nat.add_sub_cancel_left]
  exact zIE p i (by simpa using h)
def pwL (T : Nat -> Nat -> Nat) (n j : Nat) : List M.T:=tab n fun x=>.int .i64 (zHV T n x ((j : Int) - 1) : Nat)
@[simp] theorem zTj (T : Nat -> Nat -> Nat) (n j : Nat) : (pwL T n j).length = n:=by simp [pwL]
def pwA (T : Nat -> Nat -> Nat) (n : Nat) (u : Nat -> Bool) (j : Nat) : AV:=.t 1 (if u j = true then .sl 1 (pwL T n j) else .sl 0 [])
theorem zP4 {T : Nat -> Nat -> Nat} {n : Nat} {u : Nat -> Bool} {j : Nat} (h : u j = true) : pwA T n u j = .t 1 (.sl 1 (pwL T n j)):=by unfold pwA; rw [if_pos h]
theorem zT5 {T : Nat -> Nat -> Nat} {n : Nat} {u : Nat -> Bool} {j : Nat} (h : u j = false) : pwA T n u j = .t 1 (.sl 0 []):=by unfold pwA; rw [if_neg (by rw [h]; simp)]
def mcC (tb : List (List Int)) (T : Nat -> Nat -> Nat) (n : Nat) (one : Int) (u : Nat -> Bool) : List AV:=.t 1 (rows tb) :: .t 2 (.int .i64 one) :: tab 11 (pwA T n u)
def mcO (tb : List (List Int)) (T : Nat -> Nat -> Nat) (n : Nat) (one : Int) (u : Nat -> Bool) : AObj:=.box 190 (mcC tb T n one u)
section
variable {tb : List (List Int)} {T : Nat -> Nat -> Nat} {n : Nat} {one : Int} {u u' : Nat -> Bool}
@[simp] theorem zT3 : (mcC tb T n one u).length = 13:=by simp [mcC]
@[simp] theorem zSC : (mcC tb T n one u)[0]? = some (.t 1 (rows tb)):=rfl
@[simp] theorem zSK : (mcC tb T n one u)[1]? = some (.t 2 (.int .i64 one)):=rfl
theorem zNR {j : Nat} (h : j < 11) : (mcC tb T n one u)[2 + j]? = some (pwA T n u j):=by
 unfold mcC
 rw [show 2 + j = j + 1 + 1 by omega,List.getElem?_cons_succ,List.getElem?_cons_succ,zP _ h]
theorem zIZ {i : Nat} {a : AV} (h : (mcC tb T n one u)[i]? = some a) : (i = 0 /\ a = .t 1 (rows tb)) \/ (i = 1 /\ a = .t 2 (.int .i64 one)) \/ ∃ j,j < 11 /\ i = 2 + j /\ a = pwA T n u j:=by
 rcases i with _ | _ | j
 ·rw [zSC] at h; injection h with h; exact .inl ⟨rfl,h.symm⟩
 ·rw [zSK] at h; injection h with h; exact .inr (.inl ⟨rfl,h.symm⟩)
 ·have hl : j + 1 + 1 < 13:=by have:=(List.getElem?_eq_some_iff.1 h).1; simpa using this
  rw [show j + 1 + 1 = 2 + j by omega,zNR (by omega)] at h
  injection h with h
  exact .inr (.inr ⟨j,by omega,by omega,h.symm⟩)
theorem zSQ {H : Nat -> Option AObj} {m : Nat -> Option Nat} {un : Nat -> Prop} {nx j : Nat} (h : u' j = u j) : wkP H m un nx (pwA T n u j) (pwA T n u' j):=by
 unfold pwA
 rw [h]
 exact ⟨rfl,Nat.le_refl _⟩
theorem zm {H : Nat -> Option AObj} {m : Nat -> Option Nat} {un : Nat -> Prop} {nx : Nat} : wkPs H m un nx (mcC tb T n one u) (mcC tb T n one u) = True:=by
 refine eq_true (zBx rfl (fun i a b ha hb=>?_))
 rw [ha] at hb
 injection hb with hb
 subst hb
 rcases zIZ ha with ⟨-,rfl⟩ | ⟨-,rfl⟩ | ⟨j,-,-,rfl⟩
 ·exact ⟨rfl,Nat.le_refl _⟩
 ·exact ⟨rfl,Nat.le_refl _⟩
 ·exact ⟨rfl,Nat.le_refl _⟩
theorem zQ9 {H : Nat -> Option AObj} {m : Nat -> Option Nat} {un : Nat -> Prop} {nx j : Nat} {v : AV} (hj : j < 11) (hu : ∀ i,i ≠ j -> u' i = u i) (hv : wkP H m un nx v (pwA T n u' j)) : wkPs H m un nx ((mcC tb T n one u).set (2 + j) v) (mcC tb T n one u'):=by
 refine zBx (by simp) (fun i a b ha hb=>?_)
 by_cases hi : i = 2 + j
 ·subst hi
  rw [List.getElem?_set_self (by simp; omega)] at ha
  rw [zNR hj] at hb
  injection ha with ha
  injection hb with hb
  subst ha hb
  exact hv
 ·rw [List.getElem?_set_ne (by omega)] at ha
  rcases zIZ ha with ⟨rfl,rfl⟩ | ⟨rfl,rfl⟩ | ⟨j',hj',rfl,rfl⟩
  ·rw [zSC] at hb; injection hb with hb; subst hb; exact ⟨rfl,Nat.le_refl _⟩
  ·rw [zSK] at hb; injection hb with hb; subst hb; exact ⟨rfl,Nat.le_refl _⟩
  ·rw [zNR hj'] at hb; injection hb with hb; subst hb
   exact zSQ (hu j' (by omega))
end
def zGY (u : Nat -> Bool) (s : Int × Int) : Nat -> Bool:=if s.1 = 3 then fun j=>u j || decide ((j : Int) - 1 = s.2) else u
def zU : Nat -> Bool:=fun _=>false
theorem zOU {tb : List (List Int)} {T : Nat -> Nat -> Nat} {n : Nat} {one : Int} : mcC tb T n one zU = [.t 1 (rows tb),.t 2 (.int .i64 one),.t 1 (.sl 0 []),.t 1 (.sl 0 []),.t 1 (.sl 0 []),.t 1 (.sl 0 []),.t 1 (.sl 0 []),.t 1 (.sl 0 []),.t 1 (.sl 0 []),.t 1 (.sl 0 []),.t 1 (.sl 0 []),.t 1 (.sl 0 []),.t 1 (.sl 0 [])]:=rfl
theorem zGd {α β : Type} (f : β -> α -> β) (b : β) (l : List α) {k : Nat} (h : k < l.length) : (l.take (k + 1)).foldl f b = f ((l.take k).foldl f b) l[k]:=by
 rw [List.take_succ_eq_append_getElem h,List.foldl_append]
 rfl
def zHT (ps : List (List (Int × Int))) (u : Nat -> Bool) : Nat -> Bool:=ps.foldl (fun u p=>p.foldl zGY u) u
theorem zMY (h : 190 < Tryz.prog.types.size) : (Tryz.prog.types[190]'h).size = 13:=by rfl
theorem zFq (tb : List (List Int)) (n : Nat) (T : Nat -> Nat -> Nat) (ht : TbL tb n T) (hA : zBA n T) (hn0 : 0 < n) (hn : n <= 1000) (one : Int) (ps : List (List (Int × Int))) (hps : ps.length <= 1000)
  (hp : ∀ p ∈ ps,p.length <= 100000 /\ ∀ s ∈ p,s.1 = 3 -> -1 <= s.2 /\ s.2 <= 9) :
  FnS Tryz.prog 70 [.t 1 (rows tb),.t 2 (.int .i64 one),.t 0 (.sl 1 (ps.map pgT))] [] (.ptr 0 0 13) [mcO tb T n one (zHT ps zU)]:=by
 have htl:=ht.len
 refine fI 72 #[.tmp 6] Tryz.func70 rfl ?_
 refine rg0 ?_
 refine rg1 @zMY ?_
 refine zA ?_
 refine rg0 ?_
 refine zB ?_
 refine awp_loop (fun k : Nat=>mkS [(0,.t 1 (rows tb)),(7,.ptr 0 0 13),(18,.t 0 (.sl 1 (ps.map pgT))),(19,.t 2 (.int .i64 ps.length)),(20,.t 2 (.int .i64 k))] [(0,mcO tb T n one (zHT (ps.take k) zU))] 1 72 [.any,.any,.any]) (fun k=>k <= ps.length) (fun k=>ps.length - k) ?_ ?_
 ·refine ⟨0,by omega,?_⟩
  rw [show zHT (ps.take 0) zU = zU from rfl]
  exact kw1 [(0,some 4000000)] (an @mcO.eq_1 (an @zOU (an @rows.eq_1 @zMY)))
 intro k hk
 refine rg0 ?_
 refine zA ?_
 by_cases hkl : k < ps.length
 case neg =>
  obtain rfl : k = ps.length:=by omega
  rw [List.take_length]
  refine cF0 ?_
  refine zG ?_
  show awp _ _ _ _
  refine rg0 ?_
  refine zC ?_
  exact zCW (an @mcO.eq_1 @zm)
 obtain ⟨p,hpk⟩ : ∃ p,p = ps[k]:=⟨_,rfl⟩
 obtain ⟨hpl,hps3⟩:=hp p (by rw [hpk]; exact List.getElem_mem hkl)
 have hut : zHT (ps.take (k + 1)) zU = p.foldl zGY (zHT (ps.take k) zU):=by
  unfold zHT
  rw [zGd _ _ _ hkl,hpk]
 generalize zHT (ps.take k) zU = u0 at hut ⊢
 refine cK1 @hkl ?_
 refine zA ?_
 refine zB ?_
 refine rg1 (an @hkl hpk.symm) ?_
 refine rg1 @pgT.eq_1 ?_
 refine zB ?_
 refine awp_loop (fun i : Nat=>mkS [(0,.t 1 (rows tb)),(7,.ptr 0 0 13),(18,.t 0 (.sl 1 (ps.map pgT))),(19,.t 2 (.int .i64 ps.length)),(20,.t 2 (.int .i64 k)),(24,.t 0 (.sl 2 (pgC p))),(25,.t 2 (.int .i64 p.length)),(26,.t 2 (.int .i64 i))] [(0,mcO tb T n one ((p.take i).foldl zGY u0))] 1 72 [.any,.any,.any]) (fun i=>i <= p.length) (fun i=>p.length - i) ?_ ?_
 ·refine ⟨0,by omega,?_⟩
  rw [show (p.take 0).foldl zGY u0 = u0 from rfl]
  exact kw1 [(0,some 0)] (an @mcO.eq_1 (an @zm (an @rows.eq_1 @pgT.eq_1)))
 intro i hi
 refine rg0 ?_
 refine zA ?_
 by_cases hil : i < p.length
 case neg =>
  obtain rfl : i = p.length:=by omega
  rw [List.take_length,← hut]
  refine cF0 ?_
  refine zG ?_
  show awp _ _ _ _
  refine rr0 ?_
  refine ⟨k + 1,by omega,by omega,?_⟩
  exact kw1 [(0,some 0)] (an @mcO.eq_1 (an @zm @rows.eq_1))
 have hut2:=zGd zGY u0 p hil
 have hcut:=zIE p i hil
 have hs3:=hps3 _ (List.getElem_mem hil)
 generalize p[i] = s at hut2 hcut hs3
 obtain ⟨kd,m⟩:=s
 simp only at hut2 hcut hs3
 generalize (p.take i).foldl zGY u0 = u1 at hut2 ⊢
 refine cK1 @hil ?_
 refine zA ?_
 refine zB ?_
 by_cases e3 : kd = 3
 case neg =>
  have hu2 : (p.take (i + 1)).foldl zGY u0 = u1:=by rw [hut2]; unfold zGY; rw [if_neg e3]
  have e3b : (kd == 3) = false:=by simpa using e3
  have e3c : (kd != 3) = true:=by simpa using e3
  refine rg1 (an @hcut @hil) ?_
  refine zA ?_
  refine rd1 (an @e3 (an @e3b @e3c)) ?_
  refine cT0 ?_
  refine zG ?_
  show awp _ _ _ _
  refine rr0 ?_
  refine ⟨i + 1,by omega,by omega,?_⟩
  rw [hu2]
  exact kw1 [(0,some 0)] (an @mcO.eq_1 (an @zm @rows.eq_1))
 subst e3
 obtain ⟨hm0,hm9⟩:=hs3 rfl
 obtain ⟨j,rfl⟩ : ∃ j : Nat,m = (j : Int) - 1:=⟨(m + 1).toNat,by omega⟩
 have hj : j < 11:=by omega
 have hmp:=zNR (tb:=tb) (T:=T) (n:=n) (one:=one) (u:=u1) hj
 have hu2 : (p.take (i + 1)).foldl zGY u0 = fun x=>u1 x || decide ((x : Int) - 1 = (j : Int) - 1):=by rw [hut2]; unfold zGY; rw [if_pos rfl]
 by_cases hu : u1 j = true
 ·have hu3 : (p.take (i + 1)).foldl zGY u0 = u1:=by
   rw [hu2]
   funext x
   by_cases hx : x = j
   ·rw [hx,hu]; rfl
   ·have : ¬ ((x : Int) - 1 = (j : Int) - 1):=by omega
    rw [decide_eq_false this,Bool.or_false]
  rw [zP4 hu] at hmp
  refine rg1 (an @hcut @hil) ?_
  refine zA ?_
  refine rd1 (an @mcO.eq_1 (an @hmp @hn0)) ?_
  refine cT0 ?_
  refine zG ?_
  show awp _ _ _ _
  refine rr0 ?_
  refine ⟨i + 1,by omega,by omega,?_⟩
  rw [hu3]
  exact kw1 [(0,some 0)] (an @mcO.eq_1 (an @zm @rows.eq_1))
 have hu : u1 j = false:=by simpa using hu
 rw [zT5 hu] at hmp
 refine rg1 (an @hcut @hil) ?_
 refine zA ?_
 refine rd1 (an @mcO.eq_1 (an @hmp @hn0)) ?_
 refine cS0 ?_
 refine zX (σ':=mkS [(0,.t 1 (rows tb)),(7,.ptr 0 0 13),(11,.ptr 1 0 2),(18,.t 0 (.sl 1 (ps.map pgT))),(19,.t 2 (.int .i64 ps.length)),(20,.t 2 (.int .i64 k)),(24,.t 0 (.sl 2 (pgC p))),(25,.t 2 (.int .i64 p.length)),(26,.t 2 (.int .i64 i))] [(0,mcO tb T n one u1),(1,.box 184 [.t 2 (.int .i64 3),.t 2 (.int .i64 ((j : Int) - 1))])] 2 72 [.any,.any,.any]) ?_ ?_
 ·exact kw1 [(0,some 0),(1,some 3000001)] (an @mcO.eq_1 (an @zm @rows.eq_1))
 refine rg0 ?_
 refine zA ?_
 refine rg0 ?_
 refine zB ?_
 refine awp_loop (fun x : Nat=>mkS [(0,.t 1 (rows tb)),(7,.ptr 0 0 13),(11,.ptr 1 0 2),(12,.own 2 n),(18,.t 0 (.sl 1 (ps.map pgT))),(19,.t 2 (.int .i64 ps.length)),(20,.t 2 (.int .i64 k)),(24,.t 0 (.sl 2 (pgC p))),(25,.t 2 (.int .i64 p.length)),(26,.t 2 (.int .i64 i)),(48,.t 2 (.int .i64 n)),(49,.t 2 (.int .i64 x))] [(0,mcO tb T n one u1),(1,.box 184 [.t 2 (.int .i64 3),.t 2 (.int .i64 ((j : Int) - 1))]),(2,.row 3 1 2 (tab n fun y=>.int .i64 (if y < x then ((zHV T n y ((j : Int) - 1) : Nat) : Int) else 0)))] 3 72 [.any,.any,.any]) (fun x=>x <= n) (fun x=>n - x) ?_ ?_
 ·refine ⟨0,by omega,?_⟩
  exact kw1 [(0,some 0),(1,some 1),(2,some 2000002)] (an @mcO.eq_1 (an @zm (an @rows.eq_1 (an @zAF @htl))))
 intro x hx
 refine rg0 ?_
 refine zA ?_
 by_cases hxn : x < n
 ·have hpw:=zOy tb n T ht hA hn x hxn ((j : Int) - 1) (by omega) (by omega)
  refine cK1 @hxn ?_
  refine zA ?_
  refine zB ?_
  refine rg0 ?_
  refine zAh fun K hK=>?_
  simp (maxSteps:=2000000) (disch:=omega) [ints,rows,scal,zK,wr8,mcO]
  (repeat' apply And.intro)
  all_goals (try omega)
  refine zD (caps:=[]) (hpw) [] [] 2 rfl rfl rfl rfl (by kernel_rfl) (by simp) ?_ trivial trivial rfl trivial trivial (by simp) ?_
  ·simp [scal,rows,ints,mcO]
  simp (maxSteps:=2000000) (disch:=omega) [ints,rows,scal,zK,wr8,mcO]
  and_intros <;> try first | apply hK | omega | rfl | simp <;> omega
  show awp _ _ _ _
  refine rr0 ?_
  refine ⟨x + 1,by omega,by omega,?_⟩
  refine zQ [(0,some 0),(1,some 1),(2,some 2)] rfl ?_ ?_ ?_ ?_
  all_goals try simp [ints,mcO,zm,rows]
  rw [zg]
  refine zO (fun y hy=>?_)
  by_cases e : y = x
  ·simp [e]
  ·rw [if_neg e]
   by_cases e2 : y < x
   ·rw [if_pos e2,if_pos (by omega)]
   ·rw [if_neg e2,if_neg (by omega)]
 ·obtain rfl : x = n:=by omega
  have hrow : (tab x fun y=>M.T.int .i64 (if y < x then ((zHV T x y ((j : Int) - 1) : Nat) : Int) else 0)) = pwL T x j:=by
   unfold pwL
   refine zO (fun y hy=>?_)
   rw [if_pos hy]
  have hu4 : pwA T x ((p.take (i + 1)).foldl zGY u0) j = .t 1 (.sl 1 (pwL T x j)):=zP4 (by rw [hu2]; simp)
  have hu5 : ∀ y,y ≠ j -> ((p.take (i + 1)).foldl zGY u0) y = u1 y:=fun y hy=>by
   rw [hu2]
   have : ¬ ((y : Int) - 1 = (j : Int) - 1):=by omega
   simp only [decide_eq_false this,Bool.or_false]
  refine cF0 ?_
  refine zG ?_
  show awp _ _ _ _
  rw [hrow]
  refine re1 @mcO.eq_1 ?_
  show awp _ _ _ _
  refine rr1 @mcO.eq_1 ?_
  refine ⟨i + 1,by omega,by omega,?_⟩
  refine zQ [(0,some 0)] rfl ?_ ?_ ?_ ?_
  all_goals try simp [ints,mcO,rows]
  refine zQ9 hj hu5 ?_
  rw [hu4]
  simp
def Exn (T : Nat -> Nat -> Nat) (n : Nat) (one : Int) (u : Nat -> Bool) (vs : List Int) : List Nat -> List (Int × Int) -> Nat -> Prop
 | st,[],r=>st = [r]
 | st,(kd,m) :: p,r=>st.length < 61 /\ (
  (kd = 0 /\ ∃ o : Nat,one = o /\ o < n /\ Exn T n one u vs (o :: st) p r) ∨
  (kd = 1 /\ ∃ i a : Nat,m = i /\ vs[i]? = some (a : Int) /\ a < n /\ Exn T n one u vs (a :: st) p r) ∨
  (kd = 2 /\ ∃ x y st',st = y :: x :: st' /\ x < n /\ y < n /\ Exn T n one u vs (T x y :: st') p r) ∨
  (kd = 3 /\ ∃ x st' j,st = x :: st' /\ x < n /\ m = (j : Nat) - 1 /\ j < 11 /\ u j = true /\ Exn T n one u vs (zHV T n x m :: st') p r))
def stC (S : Nat -> Int) : List AV:=tab 61 fun i=>.t 2 (.int .i64 (S i))
@[simp] theorem zUM (S : Nat -> Int) : (stC S).length = 61:=by simp [stC]
theorem zD2 (S : Nat -> Int) {k : Nat} (h : k < 61) : (stC S)[k]? = some (.t 2 (.int .i64 (S k))):=by
 unfold stC
 rw [zP _ h]
def upS (S : Nat -> Int) (k : Nat) (x : Int) : Nat -> Int:=fun i=>if i = k then x else S i
theorem zCH (S : Nat -> Int) (k : Nat) (x : Int) : (stC S).set k (.t 2 (.int .i64 x)) = stC (upS S k x):=by
 unfold stC
 rw [zg]
 refine zO (fun i hi=>?_)
 unfold upS
 by_cases h : i = k
 ·rw [if_pos h,if_pos h]
 ·rw [if_neg h,if_neg h]
theorem zJi {H : Nat -> Option AObj} {m : Nat -> Option Nat} {un : Nat -> Prop} {nx : Nat} (S : Nat -> Int) : wkPs H m un nx (stC S) (stC S) = True:=by
 refine eq_true (zBx rfl (fun i a b ha hb=>?_))
 rw [ha] at hb
 injection hb with hb
 subst hb
 have hl : i < 61:=by have:=(List.getElem?_eq_some_iff.1 ha).1; simpa using this
 rw [zD2 S hl] at ha
 injection ha with ha
 subst ha
 exact ⟨rfl,Nat.le_refl _⟩
theorem zOR : stC (fun _=>0) = List.replicate 61 (.t 2 (.int .i64 0)):=rfl
def zLw (S : Nat -> Int) : List Nat -> Prop
 | []=>True
 | x :: st=>S st.length = (x : Int) /\ zLw S st
theorem zLw.up {S : Nat -> Int} {k : Nat} {v : Int} : ∀ {st : List Nat},zLw S st -> st.length <= k -> zLw (upS S k v) st
 | [],_,_=>trivial
 | x :: st,h,hk=>by
  have hk : st.length + 1 <= k:=hk
  refine ⟨?_,zLw.up h.2 (by omega)⟩
  unfold upS
  rw [if_neg (by omega)]
  exact h.1
theorem zLw.push {S : Nat -> Int} {st : List Nat} (h : zLw S st) (x : Nat) : zLw (upS S st.length (x : Int)) (x :: st):=by
 refine ⟨?_,h.up (Nat.le_refl _)⟩
 unfold upS
 rw [if_pos rfl]
theorem zSM {T : Nat -> Nat -> Nat} {n j x : Nat} (h : x < n) : (pwL T n j)[x]? = some (.int .i64 (zHV T n x ((j : Int) - 1) : Nat)):=by
 unfold pwL
 rw [zP _ h]
theorem ints_at {vs : List Int} {i : Nat} {a : Int} (h : vs[i]? = some a) : (vs.map (M.T.int .i64))[i]? = some (.int .i64 a):=by
 rw [List.getElem?_map,h]
 rfl
theorem zPM (tb : List (List Int)) (n : Nat) (T : Nat -> Nat -> Nat) (ht : TbL tb n T) (hA : zBA n T) (hn : n <= 1000) (one : Int) (u : Nat -> Bool) (vs : List Int) (p : List (Int × Int)) (hpl : p.length <= 100000) (r : Nat) (hp : Exn T n one u vs [] p r) :
  FnS Tryz.prog 73 [.ptr 0 0 13,.t 0 (pgT p),.t 0 (ints vs)] [mcO tb T n one u] (.t 2 (.int .i64 (r : Nat))) [mcO tb T n one u]:=by
 refine fI 84 #[.tmp 6] Tryz.func73 rfl ?_
 refine rg0 ?_
 refine rg1 @mcO.eq_1 ?_
 refine rg1 @mcO.eq_1 ?_
 refine zA ?_
 refine rg1 (an @mcO.eq_1 @pgT.eq_1) ?_
 refine zB ?_
 refine awp_loop (fun y : Nat × List Nat × (Nat -> Int)=>mkS [(0,.ptr 0 0 13),(2,.t 0 (ints vs)),(7,.ptr 1 0 61),(8,.t 2 (.int .i64 (y.2.1.length : Nat))),(11,.t 0 (pgT p)),(12,.t 2 (.int .i64 p.length)),(13,.t 2 (.int .i64 y.1))] [(0,mcO tb T n one u),(1,.box 193 (stC y.2.2))] 2 84 [.ptr 0 0 13,.any,.any]) (fun y=>y.1 <= p.length /\ Exn T n one u vs y.2.1 (p.drop y.1) r /\ zLw y.2.2 y.2.1) (fun y=>p.length - y.1) ?_ ?_
 ·refine ⟨(0,[],fun _=>0),⟨by simp,hp,trivial⟩,?_⟩
  refine zQ [(0,some 0),(1,some 1000001)] rfl ?_ ?_ ?_ ?_
  all_goals try simp [ints,mcO,zm,pgT,rows,zOR,List.replicate]
 rintro ⟨k,st,S⟩ ⟨hk,hex,hS⟩
 simp only at hk hex hS
 refine rg1 @pgT.eq_1 ?_
 refine zA ?_
 by_cases hkl : k < p.length
 case neg =>
  obtain rfl : k = p.length:=by omega
  rw [List.drop_length] at hex
  obtain rfl : st = [r]:=hex
  have hS0 : S 0 = (r : Int):=hS.1
  have hget:=zD2 S (k:=0) (by omega)
  rw [hS0] at hget
  refine cF0 ?_
  refine zG ?_
  show awp _ _ _ _
  refine rg1 @hget ?_
  refine zC ?_
  exact zCW (an @mcO.eq_1 @zm)
 have hcut:=zIE p k hkl
 rw [List.drop_eq_getElem_cons hkl] at hex
 generalize p[k] = s at hex hcut
 obtain ⟨kd,m⟩:=s
 simp only at hcut
 obtain ⟨hsl,hex⟩:=hex
 refine cK1 @hkl ?_
 refine zA ?_
 refine zB ?_
 refine rg1 (an @hcut (an @hkl @pgT.eq_1)) ?_
 refine rg0 ?_
 refine zB ?_
 refine rg0 ?_
 rcases hex with ⟨rfl,o,rfl,ho,hex⟩ | ⟨rfl,i,a,rfl,hv,han,hex⟩ | ⟨rfl,x,y,st',rfl,hx,hy,hex⟩ | ⟨rfl,x,st',j,rfl,hx,rfl,hj,hu,hex⟩
 ·refine cT0 ?_
  refine rg1 (an @mcO.eq_1 @zCH) ?_
  refine rr0 ?_
  show awp _ _ _ _
  refine rr0 ?_
  refine ⟨(k + 1,o :: st,upS S st.length o),⟨by simp only; omega,hex,hS.push o⟩,by simp only; omega,?_⟩
  exact kw1 [(0,some 0),(1,some 1)] (an @mcO.eq_1 (an @zm (an @pgT.eq_1 (an @rows.eq_1 (an @zJi @zCH)))))
 ·have hva:=ints_at hv
  have hil:=(List.getElem?_eq_some_iff.1 hv).1
  have hvg : vs[i] = (a : Int):=(List.getElem?_eq_some_iff.1 hv).2
  refine cF0 ?_
  refine rg0 ?_
  refine cT0 ?_
  refine rg1 (an @zCH (an @hva @hvg)) ?_
  refine rr0 ?_
  show awp _ _ _ _
  refine rr0 ?_
  refine ⟨(k + 1,a :: st,upS S st.length a),⟨by simp only; omega,hex,hS.push a⟩,by simp only; omega,?_⟩
  exact kw1 [(0,some 0),(1,some 1)] (an @mcO.eq_1 (an @zm (an @pgT.eq_1 (an @rows.eq_1 (an @zJi @zCH)))))
 ·obtain ⟨hSy,hSx,hS'⟩:=hS
  obtain ⟨L,hL⟩ : ∃ L,L = st'.length:=⟨_,rfl⟩
  simp only [List.length_cons,← hL] at hSy hSx hsl ⊢
  obtain ⟨g1,g2,g3⟩:=ht.get hx hy
  have q1:=zD2 S (k:=L) (by omega)
  have q2:=zD2 S (k:=L + 1) (by omega)
  rw [hSx] at q1
  rw [hSy] at q2
  refine cF0 ?_
  refine rg0 ?_
  refine cF0 ?_
  refine rg0 ?_
  refine cT0 ?_
  refine rg0 ?_
  refine zAm (by kernel_rfl) (fun K hK=>?_)
  simp (maxSteps:=2000000) (disch:=omega) [ints,rows,scal,zK,wr8,mcO,q1,q2,rows,ints,g1,g2,g3,zCH]
  and_intros <;> try first | apply hK | (show zA8 _ _ = true; kernel_rfl) | (show okH _ _ _ = true; kernel_rfl) | omega | rfl | simp <;> omega
  show awp _ _ _ _
  refine zAh fun K hK=>?_
  simp (maxSteps:=2000000) (disch:=omega) [ints,rows,scal,zK,wr8]
  (repeat' first | apply hK | apply And.intro) <;> try first | omega | rfl | (simp <;> omega)
  refine ⟨(k + 1,T x y :: st',upS S L (T x y : Nat)),⟨by simp only; omega,hex,by rw [hL]; exact zLw.push hS' _⟩,by simp only; omega,?_⟩
  exact kw1 [(0,some 0),(1,some 1)] (an @mcO.eq_1 (an @zm (an @pgT.eq_1 (an @rows.eq_1 (an @zJi (an @zCH hL.symm))))))
 ·obtain ⟨hSx,hS'⟩:=hS
  obtain ⟨L,hL⟩ : ∃ L,L = st'.length:=⟨_,rfl⟩
  simp only [List.length_cons,← hL] at hSx hsl ⊢
  have q1:=zD2 S (k:=L) (by omega)
  rw [hSx] at q1
  have hmp:=zNR (tb:=tb) (T:=T) (n:=n) (one:=one) (u:=u) hj
  rw [zP4 hu] at hmp
  have hpa:=zSM (T:=T) (j:=j) hx
  refine cF0 ?_
  refine rg0 ?_
  refine cF0 ?_
  refine rg0 ?_
  refine cF0 ?_
  refine rg0 ?_
  refine cT0 ?_
  refine zAm (by kernel_rfl) (fun K hK=>?_)
  simp (maxSteps:=2000000) (disch:=omega) [ints,rows,scal,zK,wr8,mcO,q1,hmp,hpa,hx,zCH]
  and_intros <;> try first | apply hK | (show zA8 _ _ = true; kernel_rfl) | (show okH _ _ _ = true; kernel_rfl) | omega | rfl | simp <;> omega
  show awp _ _ _ _
  refine rr0 ?_
  refine ⟨(k + 1,zHV T n x ((j : Int) - 1) :: st',upS S L (zHV T n x ((j : Int) - 1) : Nat)),⟨by simp only; omega,hex,by rw [hL]; exact zLw.push hS' _⟩,by simp only; omega,?_⟩
  exact kw1 [(0,some 0),(1,some 1)] (an @mcO.eq_1 (an @zm (an @pgT.eq_1 (an @rows.eq_1 (an @zJi (an @zCH hL.symm))))))
mutual
def Tm.gr : Tm -> Nat
 | .mk o n l=>max (if o = 2 then n.toNat + 1 else 0) (grL l)
def grL : List Tm -> Nat
 | []=>0
 | a :: r=>max a.gr (grL r)
end
mutual
def Tm.zB2 : Tm -> Bool
 | .mk o n l=>decide (o = 1) || zAj l
def zAj : List Tm -> Bool
 | []=>false
 | a :: r=>a.zB2 || zAj r
end
structure VIn (n : Nat) (vs : List Int) (v : Nat -> Nat) : Prop where
 get : ∀ i,i < vs.length -> vs[i]? = some (v i : Int) /\ v i < n
section
variable {T : Nat -> Nat -> Nat} {n : Nat} {one : Int} {u : Nat -> Bool} {vs : List Int} {v : Nat -> Nat} {o1 : Nat}
theorem zO4 {o n : Int} {l : List Tm} (h : (Tm.mk o n l).ok = true) : ((o = 1 /\ n = 0 /\ l.length = 0) \/ (o = 2 /\ 0 <= n /\ n < 6 /\ l.length = 0) \/ (o = 3 /\ n = 0 /\ 2 <= l.length) \/ (o = 4 /\ -1 <= n /\ n <= 9 /\ l.length = 1)) /\ zB0 l = true:=by
 rw [ok_eq,Bool.and_eq_true] at h
 refine ⟨?_,h.2⟩
 have:=h.1
 unfold Tm.wf at this
 exact of_decide_eq_true this
theorem zP9 {st : List Nat} {p : List (Int × Int)} {r : Nat} (hV : VIn n vs v) {m : Int} (h0 : 0 <= m) (hl : m.toNat < vs.length) (hs : st.length < 61) (h : Exn T n one u vs (v m.toNat :: st) p r) : Exn T n one u vs st ((1,m) :: p) r:=by
 obtain ⟨h1,h2⟩:=hV.get _ hl
 rw [Exn]
 exact ⟨hs,.inr (.inl ⟨rfl,m.toNat,v m.toNat,by omega,h1,h2,h⟩)⟩
theorem zQj {st : List Nat} {p : List (Int × Int)} {r : Nat} (h1 : one = (o1 : Int)) (h2 : o1 < n) (hs : st.length < 61) (h : Exn T n one u vs (o1 :: st) p r) : Exn T n one u vs st ((0,0) :: p) r:=by
 rw [Exn]
 exact ⟨hs,.inl ⟨rfl,o1,h1,h2,h⟩⟩
theorem zP8 {st : List Nat} {x y : Nat} {p : List (Int × Int)} {r : Nat} (hx : x < n) (hy : y < n) (hs : st.length + 2 < 61) (h : Exn T n one u vs (T x y :: st) p r) : Exn T n one u vs (y :: x :: st) ((2,0) :: p) r:=by
 rw [Exn]
 exact ⟨hs,.inr (.inr (.inl ⟨rfl,x,y,st,rfl,hx,hy,h⟩))⟩
theorem zQ3 {st : List Nat} {x : Nat} {m : Int} {p : List (Int × Int)} {r : Nat} (hx : x < n) (hm : -1 <= m) (hm9 : m <= 9) (hu : u (m + 1).toNat = true) (hs : st.length + 1 < 61) (h : Exn T n one u vs (zHV T n x m :: st) p r) : Exn T n one u vs (x :: st) ((3,m) :: p) r:=by
 rw [Exn]
 exact ⟨hs,.inr (.inr (.inr ⟨rfl,x,st,(m + 1).toNat,rfl,hx,by omega,by omega,hu,h⟩))⟩
mutual
theorem zIi (hT : ∀ r c,r < n -> c < n -> T r c < n) (hA : zBA n T) (hV : VIn n vs v) : ∀ (t : Tm),t.ok = true -> t.gr <= vs.length -> (t.zB2 = true -> one = (o1 : Int) /\ o1 < n) -> (∀ s ∈ t.cmp,s.1 = 3 -> u (s.2 + 1).toNat = true) →
  t.ev T n o1 v < n /\ ∀ (st : List Nat) (p : List (Int × Int)) (r : Nat),st.length + t.sz <= 60 -> Exn T n one u vs (t.ev T n o1 v :: st) p r -> Exn T n one u vs st (t.cmp ++ p) r
 | .mk o m l,hok,hg,h1,hu=>by
  obtain ⟨hwf,hl⟩:=zO4 hok
  rw [Tm.gr] at hg
  rw [Tm.zB2] at h1
  rw [Tm.cmp] at hu ⊢
  rw [Tm.ev,Tm.sz]
  by_cases e1 : o = 1
  ·rw [if_pos e1,if_pos e1]
   obtain ⟨a1,a2⟩:=h1 (by simp [e1])
   exact ⟨a2,fun st p r hs h=>zQj a1 a2 (by omega) h⟩
  rw [if_neg e1,if_neg e1]
  rw [if_neg e1] at hu
  by_cases e2 : o = 2
  ·rw [if_pos e2,if_pos e2]
   rw [if_pos e2] at hg
   have h0 : 0 <= m:=by omega
   have hlt : m.toNat < vs.length:=by omega
   exact ⟨(hV.get _ hlt).2,fun st p r hs h=>zP9 hV h0 hlt (by omega) h⟩
  rw [if_neg e2,if_neg e2]
  rw [if_neg e2] at hu hg
  have hne : l ≠ []:=fun e=>by subst e; simp at hwf; omega
  obtain ⟨b1,b2⟩:=zOf hT hA hV l hne hl (by omega) (fun h=>h1 (by simp [h])) (fun s hs=>hu s (by simp [hs]))
  by_cases e4 : o = 4
  ·rw [if_pos e4,if_pos e4]
   rw [if_pos e4] at hu
   have hm : -1 <= m /\ m <= 9:=by omega
   refine ⟨zQl hT hA b1 m,fun st p r hs h=>?_⟩
   rw [List.append_assoc]
   refine b2 st _ r (by omega) ?_
   exact zQ3 b1 hm.1 hm.2 (hu (3,m) (by simp) rfl) (by omega) h
  ·rw [if_neg e4,if_neg e4,List.append_nil]
   exact ⟨b1,fun st p r hs h=>b2 st p r (by omega) h⟩
theorem zOf (hT : ∀ r c,r < n -> c < n -> T r c < n) (hA : zBA n T) (hV : VIn n vs v) : ∀ (l : List Tm),l ≠ [] -> zB0 l = true -> grL l <= vs.length -> (zAj l = true -> one = (o1 : Int) /\ o1 < n) -> (∀ s ∈ cmpL true l,s.1 = 3 -> u (s.2 + 1).toNat = true) →
  evL T n o1 v none l < n /\ ∀ (st : List Nat) (p : List (Int × Int)) (r : Nat),st.length + 1 + szL l <= 60 -> Exn T n one u vs (evL T n o1 v none l :: st) p r -> Exn T n one u vs st (cmpL true l ++ p) r
 | [],hne,_,_,_,_=>absurd rfl hne
 | a :: l,_,hok,hg,h1,hu=>by
  have hok2 : a.ok = true /\ zB0 l = true:=by simpa [zB0] using hok
  rw [grL] at hg
  rw [zAj] at h1
  rw [cmpL] at hu ⊢
  rw [evL,szL]
  obtain ⟨a1,a2⟩:=zIi hT hA hV a hok2.1 (by omega) (fun h=>h1 (by simp [h])) (fun s hs=>hu s (by simp [hs]))
  obtain ⟨b1,b2⟩:=zIq hT hA hV l (a.ev T n o1 v) a1 hok2.2 (by omega) (fun h=>h1 (by simp [h])) (fun s hs=>hu s (by simp [hs]))
  refine ⟨b1,fun st p r hs h=>?_⟩
  rw [show a.cmp ++ (if true = true then [] else [(2,0)]) ++ cmpL false l ++ p = a.cmp ++ (cmpL false l ++ p) by simp]
  exact a2 st _ r (by omega) (b2 st p r (by omega) h)
theorem zIq (hT : ∀ r c,r < n -> c < n -> T r c < n) (hA : zBA n T) (hV : VIn n vs v) : ∀ (l : List Tm) (y : Nat),y < n -> zB0 l = true -> grL l <= vs.length -> (zAj l = true -> one = (o1 : Int) /\ o1 < n) -> (∀ s ∈ cmpL false l,s.1 = 3 -> u (s.2 + 1).toNat = true) →
  evL T n o1 v (some y) l < n /\ ∀ (st : List Nat) (p : List (Int × Int)) (r : Nat),st.length + 1 + szL l <= 60 -> Exn T n one u vs (evL T n o1 v (some y) l :: st) p r -> Exn T n one u vs (y :: st) (cmpL false l ++ p) r
 | [],y,hy,_,_,_,_=>by
  rw [evL,cmpL]
  exact ⟨hy,fun st p r _ h=>h⟩
 | a :: l,y,hy,hok,hg,h1,hu=>by
  have hok2 : a.ok = true /\ zB0 l = true:=by simpa [zB0] using hok
  rw [grL] at hg
  rw [zAj] at h1
  rw [cmpL] at hu ⊢
  rw [evL,szL]
  have hap:=zLn a
  obtain ⟨a1,a2⟩:=zIi hT hA hV a hok2.1 (by omega) (fun h=>h1 (by simp [h])) (fun s hs=>hu s (by simp [hs]))
  obtain ⟨b1,b2⟩:=zIq hT hA hV l (T y (a.ev T n o1 v)) (hT _ _ hy a1) hok2.2 (by omega) (fun h=>h1 (by simp [h])) (fun s hs=>hu s (by simp [hs]))
  refine ⟨b1,fun st p r hs h=>?_⟩
  rw [show a.cmp ++ (if false = true then [] else [(2,0)]) ++ cmpL false l ++ p = a.cmp ++ ((2,0) :: (cmpL false l ++ p)) by simp]
  refine a2 (y :: st) _ r (by simp; omega) ?_
  exact zP8 hy a1 (by omega) (b2 st p r (by omega) h)
end
theorem zC6 : ∀ (p : List (Int × Int)) (u : Nat -> Bool) (j : Nat),u j = true -> p.foldl zGY u j = true
 | [],u,j,h=>h
 | s :: p,u,j,h=>by
  rw [List.foldl_cons]
  refine zC6 p _ j ?_
  unfold zGY
  split
  ·simp [h]
  ·exact h
theorem zG0 : ∀ (p : List (Int × Int)) (u : Nat -> Bool) (s : Int × Int) (j : Nat),s ∈ p -> s.1 = 3 -> s.2 = (j : Int) - 1 -> p.foldl zGY u j = true
 | s0 :: p,u,s,j,hm,h3,hj=>by
  rw [List.foldl_cons]
  rcases List.mem_cons.1 hm with rfl | hm
  ·refine zC6 p _ j ?_
   unfold zGY
   rw [if_pos h3]
   simp [hj]
  ·exact zG0 p _ s j hm h3 hj
theorem zGE : ∀ (ps : List (List (Int × Int))) (u : Nat -> Bool) (j : Nat),u j = true -> zHT ps u j = true
 | [],u,j,h=>h
 | p :: ps,u,j,h=>zGE ps _ j (zC6 p u j h)
theorem zJx : ∀ (ps : List (List (Int × Int))) (u : Nat -> Bool) (p : List (Int × Int)) (s : Int × Int) (j : Nat),p ∈ ps -> s ∈ p -> s.1 = 3 -> s.2 = (j : Int) - 1 -> zHT ps u j = true
 | q :: ps,u,p,s,j,hp,hs,h3,hj=>by
  rcases List.mem_cons.1 hp with rfl | hp
  ·exact zGE ps _ j (zG0 p u s j hs h3 hj)
  ·exact zJx ps _ p s j hp hs h3 hj
mutual
theorem zFc : ∀ (t : Tm),t.ok = true -> ∀ s ∈ t.cmp,s.1 = 3 -> -1 <= s.2 /\ s.2 <= 9
 | .mk o m l,hok,s,hs,h3=>by
  obtain ⟨hwf,hl⟩:=zO4 hok
  rw [Tm.cmp] at hs
  split at hs
  ·simp at hs; rw [hs] at h3; cases h3
  ·split at hs
   ·simp at hs; rw [hs] at h3; cases h3
   ·rcases List.mem_append.1 hs with hs | hs
    ·exact zJf true l hl s hs h3
    ·split at hs
     ·simp at hs; rw [hs]; exact ⟨by simp only; omega,by simp only; omega⟩
     ·cases hs
theorem zJf : ∀ (b : Bool) (l : List Tm),zB0 l = true -> ∀ s ∈ cmpL b l,s.1 = 3 -> -1 <= s.2 /\ s.2 <= 9
 | b,[],_,s,hs,_=>by rw [cmpL] at hs; cases hs
 | b,a :: l,hok,s,hs,h3=>by
  have hok2 : a.ok = true /\ zB0 l = true:=by simpa [zB0] using hok
  rw [cmpL] at hs
  rcases List.mem_append.1 hs with hs | hs
  ·rcases List.mem_append.1 hs with hs | hs
   ·exact zFc a hok2.1 s hs h3
   ·cases b
    ·simp at hs; rw [hs] at h3; cases h3
    ·cases hs
  ·exact zJf false l hok2.2 s hs h3
end
theorem zLF (hT : ∀ r c,r < n -> c < n -> T r c < n) (hA : zBA n T) (hV : VIn n vs v) (t : Tm) (hval : t.val = true) (hg : t.gr <= vs.length) (h1 : t.zB2 = true -> one = (o1 : Int) /\ o1 < n) (ps : List (List (Int × Int))) (hps : t.cmp ∈ ps) :
  t.ev T n o1 v < n /\ Exn T n one (zHT ps zU) vs [] t.cmp (t.ev T n o1 v):=by
 obtain ⟨hok,hsz⟩:=zB6 hval
 obtain ⟨a1,a2⟩:=zIi (u:=zHT ps zU) hT hA hV t hok hg h1 (fun s hs h3=>by
  obtain ⟨g1,g2⟩:=zFc t hok s hs h3
  exact zJx ps zU t.cmp s (s.2 + 1).toNat hps hs h3 (by omega))
 refine ⟨a1,?_⟩
 have:=a2 [] [] (t.ev T n o1 v) (by simpa using hsz) rfl
 rwa [List.append_nil] at this
end
mutual
def Tm.vis {S : Type} (step : S -> Int × Int -> Int × Int -> S) : S -> Int × Int -> Tm -> S
 | s,a,.mk o n l=>visL step (step s (o,n) a) (o,n) l
def visL {S : Type} (step : S -> Int × Int -> Int × Int -> S) : S -> Int × Int -> List Tm -> S
 | s,a,[]=>s
 | s,a,t :: l=>visL step (t.vis step s a) a l
end
theorem zPn {S : Type} (step : S -> Int × Int -> Int × Int -> S) (s : S) (a : Int × Int) (t : Tm) : t.vis step s a = visL step (step s (t.op,t.n) a) (t.op,t.n) t.args:=by
 obtain ⟨o,n,l⟩:=t
 rw [Tm.vis]
 rfl
theorem zJG {S : Type} (step : S -> Int × Int -> Int × Int -> S) : ∀ (l r : List Tm) (s : S) (a : Int × Int),visL step s a (l ++ r) = visL step (visL step s a l) a r
 | [],r,s,a=>by rw [List.nil_append,visL]
 | t :: l,r,s,a=>by rw [List.cons_append,visL,visL,zJG step l r]
theorem zJM {S : Type} (step : S -> Int × Int -> Int × Int -> S) (s : S) (a : Int × Int) {l : List Tm} {k : Nat} (h : k < l.length) : visL step s a (l.take (k + 1)) = l[k].vis step (visL step s a (l.take k)) a:=by
 rw [List.take_succ_eq_append_getElem h,zJG,visL,visL]
def abV (a : Int × Int) : AV:=.agg [.t 2 (.int .i64 a.1),.t 2 (.int .i64 a.2),.any]
def scC (l : List T) : List AV:=l.map (.t 2)
@[simp] theorem zUO (l : List T) : (scC l).length = l.length:=by simp [scC]
def bxO (ty : Nat) (l : List T) : AObj:=.box ty (scC l)
theorem zG8 {H : Nat -> Option AObj} {pi : List Nat} {q : Nat} : ∀ {l : List T},(∀ x ∈ l,scal x = true) -> inPs H pi q (scC l) (scC l) = True
 | [],_=>rfl
 | x :: l,h=>eq_true ⟨⟨rfl,.inl (h x (by simp))⟩,of_eq_true (zG8 (l:=l) fun y hy=>h y (by simp [hy]))⟩
theorem zDu {po : List Nat} {q : Nat} : ∀ {l : List T},(∀ x ∈ l,scal x = true) -> outVs po q (scC l) = scC l
 | [],_=>rfl
 | x :: l,h=>by
  show outV po q (.t 2 x) :: outVs po q (scC l) = .t 2 x :: scC l
  rw [zDu (fun y hy=>h y (by simp [hy]))]
  simp
theorem zAg {H : Nat -> Option AObj} {m : Nat -> Option Nat} {un : Nat -> Prop} {nx : Nat} : ∀ (l : List T),wkPs H m un nx (scC l) (scC l) = True
 | []=>rfl
 | x :: l=>eq_true ⟨⟨rfl,Nat.le_refl _⟩,of_eq_true (zAg l)⟩
theorem zGW {S : Type} {L0 : S -> List T} {ty0 c0 : Nat} {F : FuncId} (hF : zBy Tryz.prog F = true) (step : S -> Int × Int -> Int × Int -> S) (hs0 : ∀ s,∀ x ∈ L0 s,scal x = true) (hc0 : ∀ s,(L0 s).length = c0)
  (h : ∀ (s : S) (t : Tm) (a : Int × Int),t.ok = true -> FnS Tryz.prog F [tmV 0 t,abV a,.ptr 0 0 c0] [bxO ty0 (L0 s)] (.tup []) [bxO ty0 (L0 (step s (t.op,t.n) a))]) :
  ∀ (t : Tm) (s : S) (a : Int × Int),t.ok = true -> t.sz <= 1000 -> FnK Tryz.prog 103 [tmV 0 t,abV a,.fn F [.ptr 0 0 c0]] [bxO ty0 (L0 s)] (.tup []) [bxO ty0 (L0 (t.vis step s a))] (List.range 1):=by
 have hi0 : ∀ (H : Nat -> Option AObj) (pi : List Nat) (q : Nat) (s : S),inPs H pi q (scC (L0 s)) (scC (L0 s)) = True:=fun H pi q s=>zG8 (hs0 s)
 have ho0 : ∀ (po : List Nat) (q : Nat) (s : S),outVs po q (scC (L0 s)) = scC (L0 s):=fun po q s=>zDu (hs0 s)
 have hw0 : ∀ (H : Nat -> Option AObj) (m : Nat -> Option Nat) (un : Nat -> Prop) (nx : Nat) (s : S),wkPs H m un nx (scC (L0 s)) (scC (L0 s)) = True:=fun H m un nx s=>zAg (L0 s)
 intro t
 induction hsz : t.sz using Nat.strongRecOn generalizing t with
 | _ q ih =>
 intro s a ho hq
 have hokl : zB0 t.args = true:=by rw [ok_eq,Bool.and_eq_true] at ho; exact ho.2
 have hF1:=h s t a ho
 have hsl:=zGR t.args
 have hse:=zHm t
 rw [zPn]
 refine zEi 1 (fun _=>c0) (fun k hk=>by
  obtain rfl : k = 0:=by omega
  exact ⟨_,_,rfl,by simp [hc0]⟩) (fun k hk=>by
  obtain rfl : k = 0:=by omega
  exact ⟨_,_,rfl,by simp [hc0]⟩) Tryz.func103 rfl (by simp [Tryz.f103]) ?_
 rw [show Tryz.f103.ntmps = 24 from rfl,show Tryz.f103.results = #[] from rfl]
 generalize step s (t.op,t.n) a = s1 at hF1 ⊢
 refine rg1 (an @tmV.eq_1 @abV.eq_1) ?_
 refine zI fun K hK=>?_
 simp (maxSteps:=2000000) (disch:=omega) [ints,rows,scal,zK,wr8,zd]
 (repeat' apply And.intro)
 all_goals (try omega)
 refine zD (caps:=[.ptr 0 0 c0]) (hF1) [0] [0] 1 rfl rfl rfl (by simp) (by first | assumption | kernel_rfl) (by simp) ?_ ?_ (by simp) rfl (by simp) ⟨.inr ⟨rfl,2,_,_,_,_,_,rfl,rfl,(by first | rfl | simp [tmV,abV,bxO,hi0,ho0,hw0,hc0]),rfl,(by first | rfl | simp [tmV,abV,bxO,hi0,ho0,hw0,hc0])⟩,trivial⟩ (by simp [tmV,abV,bxO,hi0,ho0,hw0,hc0]) ?_
 ·simp [scal,rows,ints,tmV,abV,bxO,hi0,ho0,hw0,hc0]
 ·simp [scal,rows,ints,tmV,abV,bxO,hi0,ho0,hw0,hc0]
 simp (maxSteps:=2000000) (disch:=omega) [ints,rows,scal,zK,wr8,bxO,hi0,ho0,hw0,hc0]
 (repeat' first | apply hK | apply And.intro) <;> try first | omega | rfl | (simp <;> omega)
 refine rg0 ?_
 refine zB ?_
 refine awp_loop (fun k : Nat=>mkS [(2,.fn F [.ptr 0 0 c0]),(3,.ptr 1 0 3),(13,.t 0 (.sl 3 (cellsL t.args))),(14,.t 2 (.int .i64 t.args.length)),(15,.t 2 (.int .i64 k))] [(0,bxO ty0 (L0 (visL step s1 (t.op,t.n) (t.args.take k)))),(1,teO t)] 2 24 [.any,.any,.any,.ptr 0 0 c0]) (fun k=>k <= t.args.length) (fun k=>t.args.length - k) ?_ ?_
 ·refine ⟨0,by omega,?_⟩
  rw [show visL step s1 (t.op,t.n) (t.args.take 0) = s1 from by rw [List.take_zero,visL]]
  exact kw1 [(0,some 0),(1,some 1)] (an @teO.eq_1 (an @bxO.eq_1 (an @tmV.eq_1 (an @ghB.eq_1 (an @List.range_succ (an @hi0 (an @ho0 (an @hw0 @hc0))))))))
 intro k hk
 refine rg0 ?_
 refine zA ?_
 by_cases hkl : k < t.args.length
 ·obtain ⟨b,hb⟩ : ∃ b,b = t.args[k]:=⟨_,rfl⟩
  have hcut:=zAv t.args k hkl
  rw [← hb,Tm.zAi] at hcut
  have ham : b ∈ t.args:=by rw [hb]; exact List.getElem_mem hkl
  have hlt:=zJm ham
  have htv:=zJM step s1 (t.op,t.n) hkl
  rw [← hb] at htv
  have hA:=ih b.sz (by omega) b rfl (visL step s1 (t.op,t.n) (t.args.take k)) (t.op,t.n) (zCm.1 hokl b ham) (by omega)
  rw [← htv] at hA
  refine cK1 @hkl ?_
  refine zA ?_
  refine zB ?_
  refine rg1 (an @hcut (an @hkl @teO.eq_1)) ?_
  refine zAh fun K hK=>?_
  simp (maxSteps:=2000000) (disch:=omega) [ints,rows,scal,zK,wr8,teO]
  (repeat' apply And.intro)
  all_goals (try omega)
  refine zAc (caps:=[]) (hA) [0] [0] 1 rfl rfl rfl rfl (by kernel_rfl) (by simp) ?_ ?_ (by simp) rfl (by simp) ⟨.inr (.inr ⟨rfl,by simp,by simp⟩),trivial⟩ (by simp [tmV,abV,bxO,teO,hi0,ho0,hw0,hc0]) ?_
  ·simp [scal,rows,ints,tmV,abV,bxO,teO,hi0,ho0,hw0,hc0]
  ·simp [scal,rows,ints,tmV,abV,bxO,teO,hi0,ho0,hw0,hc0]
  simp (maxSteps:=2000000) (disch:=omega) [ints,rows,scal,zK,wr8,teO,bxO,hi0,ho0,hw0,hc0]
  and_intros <;> try first | apply hK | omega | rfl | simp <;> omega
  show awp _ _ _ _
  refine rr0 ?_
  refine ⟨k + 1,by omega,by omega,?_⟩
  exact kw1 [(0,some 0),(1,some 1)] (an @teO.eq_1 (an @bxO.eq_1 (an @hi0 (an @ho0 (an @hw0 @hc0)))))
 ·obtain rfl : k = t.args.length:=by omega
  rw [List.take_length]
  refine cF0 ?_
  refine zG ?_
  refine ⟨⟨.inl rfl,_,[(0,some 0)],rfl,?_,?_,?_,?_⟩,?_⟩
  all_goals simp [bxO,ghB,List.range_succ,tmV,abV,hi0,ho0,hw0,hc0]
theorem zGV {S : Type} {L0 : S -> List T} {L1 : S -> List T} {ty0 c0 : Nat} {ty1 c1 : Nat} {F : FuncId} (hF : zBy Tryz.prog F = true) (step : S -> Int × Int -> Int × Int -> S) (hs0 : ∀ s,∀ x ∈ L0 s,scal x = true) (hc0 : ∀ s,(L0 s).length = c0) (hs1 : ∀ s,∀ x ∈ L1 s,scal x = true) (hc1 : ∀ s,(L1 s).length = c1)
  (h : ∀ (s : S) (t : Tm) (a : Int × Int),t.ok = true -> FnS Tryz.prog F [tmV 0 t,abV a,.ptr 0 0 c0,.ptr 1 0 c1] [bxO ty0 (L0 s),bxO ty1 (L1 s)] (.tup []) [bxO ty0 (L0 (step s (t.op,t.n) a)),bxO ty1 (L1 (step s (t.op,t.n) a))]) :
  ∀ (t : Tm) (s : S) (a : Int × Int),t.ok = true -> t.sz <= 1000 -> FnK Tryz.prog 103 [tmV 0 t,abV a,.fn F [.ptr 0 0 c0,.ptr 1 0 c1]] [bxO ty0 (L0 s),bxO ty1 (L1 s)] (.tup []) [bxO ty0 (L0 (t.vis step s a)),bxO ty1 (L1 (t.vis step s a))] (List.range 2):=by
 have hi0 : ∀ (H : Nat -> Option AObj) (pi : List Nat) (q : Nat) (s : S),inPs H pi q (scC (L0 s)) (scC (L0 s)) = True:=fun H pi q s=>zG8 (hs0 s)
 have ho0 : ∀ (po : List Nat) (q : Nat) (s : S),outVs po q (scC (L0 s)) = scC (L0 s):=fun po q s=>zDu (hs0 s)
 have hw0 : ∀ (H : Nat -> Option AObj) (m : Nat -> Option Nat) (un : Nat -> Prop) (nx : Nat) (s : S),wkPs H m un nx (scC (L0 s)) (scC (L0 s)) = True:=fun H m un nx s=>zAg (L0 s)
 have hi1 : ∀ (H : Nat -> Option AObj) (pi : List Nat) (q : Nat) (s : S),inPs H pi q (scC (L1 s)) (scC (L1 s)) = True:=fun H pi q s=>zG8 (hs1 s)
 have ho1 : ∀ (po : List Nat) (q : Nat) (s : S),outVs po q (scC (L1 s)) = scC (L1 s):=fun po q s=>zDu (hs1 s)
 have hw1 : ∀ (H : Nat -> Option AObj) (m : Nat -> Option Nat) (un : Nat -> Prop) (nx : Nat) (s : S),wkPs H m un nx (scC (L1 s)) (scC (L1 s)) = True:=fun H m un nx s=>zAg (L1 s)
 intro t
 induction hsz : t.sz using Nat.strongRecOn generalizing t with
 | _ q ih =>
 intro s a ho hq
 have hokl : zB0 t.args = true:=by rw [ok_eq,Bool.and_eq_true] at ho; exact ho.2
 have hF1:=h s t a ho
 have hsl:=zGR t.args
 have hse:=zHm t
 rw [zPn]
 refine zEi 2 (fun k=>if k = 0 then c0 else c1) (fun k hk=>by
  rcases (by omega : k = 0 \/ k = 1) with rfl | rfl
  ·exact ⟨_,_,rfl,by simp [hc0]⟩
  ·exact ⟨_,_,rfl,by simp [hc1]⟩) (fun k hk=>by
  rcases (by omega : k = 0 \/ k = 1) with rfl | rfl
  ·exact ⟨_,_,rfl,by simp [hc0]⟩
  ·exact ⟨_,_,rfl,by simp [hc1]⟩) Tryz.func103 rfl (by simp [Tryz.f103]) ?_
 rw [show Tryz.f103.ntmps = 24 from rfl,show Tryz.f103.results = #[] from rfl]
 generalize step s (t.op,t.n) a = s1 at hF1 ⊢
 refine rg1 (an @tmV.eq_1 @abV.eq_1) ?_
 refine zI fun K hK=>?_
 simp (maxSteps:=2000000) (disch:=omega) [ints,rows,scal,zK,wr8,zd]
 (repeat' apply And.intro)
 all_goals (try omega)
 refine zD (caps:=[.ptr 0 0 c0,.ptr 1 0 c1]) (hF1) [0,1] [0,1] 1 rfl rfl rfl (by simp) (by first | assumption | kernel_rfl) (by simp) ?_ ?_ (by simp) rfl (by simp) ⟨.inr ⟨rfl,2,_,_,_,_,_,rfl,rfl,(by first | rfl | simp [tmV,abV,bxO,hi0,ho0,hw0,hc0,hi1,ho1,hw1,hc1]),rfl,(by first | rfl | simp [tmV,abV,bxO,hi0,ho0,hw0,hc0,hi1,ho1,hw1,hc1])⟩,.inr ⟨rfl,3,_,_,_,_,_,rfl,rfl,(by first | rfl | simp [tmV,abV,bxO,hi0,ho0,hw0,hc0,hi1,ho1,hw1,hc1]),rfl,(by first | rfl | simp [tmV,abV,bxO,hi0,ho0,hw0,hc0,hi1,ho1,hw1,hc1])⟩,trivial⟩ (by simp [tmV,abV,bxO,hi0,ho0,hw0,hc0,hi1,ho1,hw1,hc1]) ?_
 ·simp [scal,rows,ints,tmV,abV,bxO,hi0,ho0,hw0,hc0,hi1,ho1,hw1,hc1]
 ·simp [scal,rows,ints,tmV,abV,bxO,hi0,ho0,hw0,hc0,hi1,ho1,hw1,hc1]
 simp (maxSteps:=2000000) (disch:=omega) [ints,rows,scal,zK,wr8,bxO,hi0,ho0,hw0,hc0,hi1,ho1,hw1,hc1]
 (repeat' first | apply hK | apply And.intro) <;> try first | omega | rfl | (simp <;> omega)
 refine rg0 ?_
 refine zB ?_
 refine awp_loop (fun k : Nat=>mkS [(2,.fn F [.ptr 0 0 c0,.ptr 1 0 c1]),(3,.ptr 2 0 3),(13,.t 0 (.sl 3 (cellsL t.args))),(14,.t 2 (.int .i64 t.args.length)),(15,.t 2 (.int .i64 k))] [(0,bxO ty0 (L0 (visL step s1 (t.op,t.n) (t.args.take k)))),(1,bxO ty1 (L1 (visL step s1 (t.op,t.n) (t.args.take k)))),(2,teO t)] 3 24 [.any,.any,.any,.ptr 0 0 c0,.ptr 1 0 c1]) (fun k=>k <= t.args.length) (fun k=>t.args.length - k) ?_ ?_
 ·refine ⟨0,by omega,?_⟩
  rw [show visL step s1 (t.op,t.n) (t.args.take 0) = s1 from by rw [List.take_zero,visL]]
  exact kw1 [(0,some 0),(1,some 1),(2,some 2)] (an @teO.eq_1 (an @bxO.eq_1 (an @tmV.eq_1 (an @ghB.eq_1 (an @List.range_succ (an @hi0 (an @ho0 (an @hw0 (an @hc0 (an @hi1 (an @ho1 (an @hw1 @hc1))))))))))))
 intro k hk
 refine rg0 ?_
 refine zA ?_
 by_cases hkl : k < t.args.length
 ·obtain ⟨b,hb⟩ : ∃ b,b = t.args[k]:=⟨_,rfl⟩
  have hcut:=zAv t.args k hkl
  rw [← hb,Tm.zAi] at hcut
  have ham : b ∈ t.args:=by rw [hb]; exact List.getElem_mem hkl
  have hlt:=zJm ham
  have htv:=zJM step s1 (t.op,t.n) hkl
  rw [← hb] at htv
  have hA:=ih b.sz (by omega) b rfl (visL step s1 (t.op,t.n) (t.args.take k)) (t.op,t.n) (zCm.1 hokl b ham) (by omega)
  rw [← htv] at hA
  refine cK1 @hkl ?_
  refine zA ?_
  refine zB ?_
  refine rg1 (an @hcut (an @hkl @teO.eq_1)) ?_
  refine zAh fun K hK=>?_
  simp (maxSteps:=2000000) (disch:=omega) [ints,rows,scal,zK,wr8,teO]
  (repeat' apply And.intro)
  all_goals (try omega)
  refine zAc (caps:=[]) (hA) [0,1] [0,1] 1 rfl rfl rfl rfl (by kernel_rfl) (by simp) ?_ ?_ (by simp) rfl (by simp) ⟨.inr (.inr ⟨rfl,by simp,by simp⟩),.inr (.inr ⟨rfl,by simp,by simp⟩),trivial⟩ (by simp [tmV,abV,bxO,teO,hi0,ho0,hw0,hc0,hi1,ho1,hw1,hc1]) ?_
  ·simp [scal,rows,ints,tmV,abV,bxO,teO,hi0,ho0,hw0,hc0,hi1,ho1,hw1,hc1]
  ·simp [scal,rows,ints,tmV,abV,bxO,teO,hi0,ho0,hw0,hc0,hi1,ho1,hw1,hc1]
  simp (maxSteps:=2000000) (disch:=omega) [ints,rows,scal,zK,wr8,teO,bxO,hi0,ho0,hw0,hc0,hi1,ho1,hw1,hc1]
  and_intros <;> try first | apply hK | omega | rfl | simp <;> omega
  show awp _ _ _ _
  refine rr0 ?_
  refine ⟨k + 1,by omega,by omega,?_⟩
  exact kw1 [(0,some 0),(1,some 1),(2,some 2)] (an @teO.eq_1 (an @bxO.eq_1 (an @hi0 (an @ho0 (an @hw0 (an @hc0 (an @hi1 (an @ho1 (an @hw1 @hc1)))))))))
 ·obtain rfl : k = t.args.length:=by omega
  rw [List.take_length]
  refine cF0 ?_
  refine zG ?_
  refine ⟨⟨.inl rfl,_,[(0,some 0),(1,some 1)],rfl,?_,?_,?_,?_⟩,?_⟩
  all_goals simp [bxO,ghB,List.range_succ,tmV,abV,hi0,ho0,hw0,hc0,hi1,ho1,hw1,hc1]
def vaS (s : Int) (h a : Int × Int) : Int:=if h.1 = 2 then (if s < h.2 + 1 then h.2 + 1 else s) else s
def hoS (s : Bool) (h a : Int × Int) : Bool:=s || decide (h.1 = 1)
mutual
theorem zPr : ∀ (t : Tm) (s : Int) (a : Int × Int),t.ok = true -> 0 <= s -> t.vis vaS s a = max s (t.gr : Int)
 | .mk o n l,s,a,hok,hs=>by
  obtain ⟨hwf,hl⟩:=zO4 hok
  rw [Tm.vis,Tm.gr]
  have h1 : vaS s (o,n) a = max s ((if o = 2 then n.toNat + 1 else 0 : Nat) : Int):=by
   unfold vaS
   by_cases h : o = 2
   ·rw [if_pos h,if_pos h]; simp only; split <;> omega
   ·rw [if_neg h,if_neg h]; omega
  rw [h1,zMz l _ _ hl (by omega)]
  omega
theorem zMz : ∀ (l : List Tm) (s : Int) (a : Int × Int),zB0 l = true -> 0 <= s -> visL vaS s a l = max s (grL l : Int)
 | [],s,a,_,hs=>by rw [visL,grL]; omega
 | t :: l,s,a,hok,hs=>by
  have hok2 : t.ok = true /\ zB0 l = true:=by simpa [zB0] using hok
  rw [visL,grL,zPr t s a hok2.1 hs,zMz l _ a hok2.2 (by omega)]
  omega
end
mutual
theorem zPb : ∀ (t : Tm) (s : Bool) (a : Int × Int),t.vis hoS s a = (s || t.zB2)
 | .mk o n l,s,a=>by
  rw [Tm.vis,Tm.zB2,zLm l]
  unfold hoS
  rw [Bool.or_assoc]
theorem zLm : ∀ (l : List Tm) (s : Bool) (a : Int × Int),visL hoS s a l = (s || zAj l)
 | [],s,a=>by rw [visL,zAj,Bool.or_false]
 | t :: l,s,a=>by rw [visL,zAj,zPb t s a,zLm l,Bool.or_assoc]
end
theorem zO0 {l : List Tm} {k : Nat} (h : k < l.length) : grL (l.take (k + 1)) = max (grL (l.take k)) l[k].gr:=by
 have : ∀ l r : List Tm,grL (l ++ r) = max (grL l) (grL r):=fun l r=>by
  induction l with
  | nil=>rw [List.nil_append,grL]; omega
  | cons a l ih=>rw [List.cons_append,grL,grL,ih]; omega
 rw [List.take_succ_eq_append_getElem h,this,grL,grL]
 omega
theorem zKS {l : List Tm} {k : Nat} (h : k < l.length) : zAj (l.take (k + 1)) = (zAj (l.take k) || l[k].zB2):=by
 have : ∀ l r : List Tm,zAj (l ++ r) = (zAj l || zAj r):=fun l r=>by
  induction l with
  | nil=>rw [List.nil_append,zAj,Bool.false_or]
  | cons a l ih=>rw [List.cons_append,zAj,zAj,ih,Bool.or_assoc]
 rw [List.take_succ_eq_append_getElem h,this,zAj,zAj,Bool.or_false]
def inL (s : Int) : List T:=[.int .i64 s]
def boL (s : Bool) : List T:=[.bool s]
theorem zSY (h : 3 < Tryz.prog.types.size) : (Tryz.prog.types[3]'h).size = 1:=by rfl
theorem zPT (h : 4 < Tryz.prog.types.size) : (Tryz.prog.types[4]'h).size = 1:=by rfl
theorem zOk (s : Int) (t : Tm) (a : Int × Int) (ho : t.ok = true) : FnS Tryz.prog 123 [tmV 0 t,abV a,.ptr 0 0 1] [bxO 3 (inL s)] (.tup []) [bxO 3 (inL (vaS s (t.op,t.n) a))]:=by
 have hwf : t.wf = true:=by rw [ok_eq,Bool.and_eq_true] at ho; exact ho.1
 unfold Tm.wf at hwf
 rw [decide_eq_true_iff] at hwf
 refine fI 13 #[] Tryz.func123 rfl ?_
 refine rg1 (an @tmV.eq_1 (an @abV.eq_1 (an @bxO.eq_1 (an @scC.eq_1 @inL.eq_1)))) ?_
 refine rg1 (an @zd (an @bxO.eq_1 (an @scC.eq_1 @inL.eq_1))) ?_
 by_cases e : t.op = 2
 ·have hr : vaS s (t.op,t.n) a = if s < t.n + 1 then t.n + 1 else s:=by unfold vaS; rw [if_pos e]
  refine cT1 @e ?_
  refine zAh fun K hK=>?_
  simp (maxSteps:=2000000) (disch:=omega) [ints,rows,scal,zK,wr8,bxO,scC,inL]
  (repeat' first | apply hK | apply And.intro) <;> try first | omega | rfl | (simp <;> omega)
  refine ⟨_,[(0,some 0)],(by first | rfl | (simp [ints,rows,scal,tmV,abV,bxO,scC,inL,hr]; rfl)),?_,?_,?_,?_⟩
  all_goals try simp [ints,rows,scal,tmV,abV,bxO,scC,inL,hr]
 ·have hr : vaS s (t.op,t.n) a = s:=by unfold vaS; rw [if_neg e]
  refine cF1 @e ?_
  refine zb ?_
  refine ⟨⟨.inl rfl,_,[(0,some 0)],rfl,?_,?_,?_,?_⟩,?_⟩
  all_goals simp [tmV,abV,bxO,scC,inL,hr]
theorem zKX (s : Bool) (t : Tm) (a : Int × Int) (ho : t.ok = true) : FnS Tryz.prog 104 [tmV 0 t,abV a,.ptr 0 0 1] [bxO 4 (boL s)] (.tup []) [bxO 4 (boL (hoS s (t.op,t.n) a))]:=by
 refine fI 11 #[] Tryz.func104 rfl ?_
 refine rg1 (an @tmV.eq_1 (an @abV.eq_1 (an @bxO.eq_1 (an @scC.eq_1 @boL.eq_1)))) ?_
 cases s with
 | true =>
  refine zAh fun K hK=>?_
  simp (maxSteps:=2000000) (disch:=omega) [ints,rows,scal,zK,wr8,zd,bxO,scC,boL]
  (repeat' first | apply hK | apply And.intro) <;> try first | omega | rfl | (simp <;> omega)
  refine ⟨_,[(0,some 0)],(by first | rfl | (simp [ints,rows,scal,tmV,abV,bxO,scC,boL,hoS]; rfl)),?_,?_,?_,?_⟩
  all_goals try simp [ints,rows,scal,tmV,abV,bxO,scC,boL,hoS]
 | false =>
  refine zAh fun K hK=>?_
  simp (maxSteps:=2000000) (disch:=omega) [ints,rows,scal,zK,wr8,zd,bxO,scC,boL]
  (repeat' first | apply hK | apply And.intro) <;> try first | omega | rfl | (simp <;> omega)
  refine ⟨_,[(0,some 0)],(by first | rfl | (simp [ints,rows,scal,tmV,abV,bxO,scC,boL,hoS]; rfl)),?_,?_,?_,?_⟩
  all_goals try simp [ints,rows,scal,tmV,abV,bxO,scC,boL,hoS]
  all_goals (by_cases h : t.op = 1 <;> simp [h])
theorem zRD (ts : List Tm) (hts : ts.length <= 1000) (hok : ∀ t ∈ ts,t.ok = true /\ t.sz <= 1000) : FnA Tryz.prog 106 [.t 0 (.sl 3 (cellsL ts))] (.t 2 (.int .i64 (grL ts : Nat))):=by
 refine fI 18 #[.tmp 2] Tryz.func106 rfl ?_
 refine rg0 ?_
 refine rg1 @zSY ?_
 refine zA ?_
 refine rg0 ?_
 refine zB ?_
 refine awp_loop (fun k : Nat=>mkS [(3,.ptr 0 0 1),(6,.t 0 (.sl 3 (cellsL ts))),(7,.t 2 (.int .i64 ts.length)),(8,.t 2 (.int .i64 k))] [(0,bxO 3 (inL (grL (ts.take k) : Nat)))] 1 18 [.any]) (fun k=>k <= ts.length) (fun k=>ts.length - k) ?_ ?_
 ·refine ⟨0,by omega,?_⟩
  refine zQ [(0,some 1000000)] rfl ?_ ?_ ?_ ?_
  all_goals try simp [ints,bxO,scC,inL,grL,zSY]
 intro k hk
 refine rg0 ?_
 refine zA ?_
 by_cases hkl : k < ts.length
 ·obtain ⟨b,hb⟩ : ∃ b,b = ts[k]:=⟨_,rfl⟩
  have hcut:=zAv ts k hkl
  have hgt:=zO0 hkl
  rw [← hb] at hcut hgt
  rw [Tm.zAi] at hcut
  obtain ⟨hbo,hbs⟩:=hok b (by rw [hb]; exact List.getElem_mem hkl)
  have hV:=zGW (S:=Int) (L0:=inL) (ty0:=3) (c0:=1) (F:=123) (by kernel_rfl) vaS (fun s x hx=>by simp [inL] at hx; subst hx; rfl) (fun s=>rfl) zOk b (grL (ts.take k) : Nat) (0,0) hbo hbs
  rw [zPr b _ _ hbo (by omega),show max ((grL (ts.take k) : Nat) : Int) (b.gr : Int) = ((grL (ts.take (k + 1)) : Nat) : Int) by rw [hgt]; omega] at hV
  refine cK1 @hkl ?_
  refine zA ?_
  refine zB ?_
  refine rg1 (an @hcut @hkl) ?_
  refine zAh fun K hK=>?_
  simp (maxSteps:=2000000) (disch:=omega) [ints,rows,scal,zK,wr8,zd]
  (repeat' apply And.intro)
  all_goals (try omega)
  refine zAc (caps:=[]) (hV) [0] [0] 1 rfl rfl rfl rfl (by kernel_rfl) (by simp) ?_ ?_ (by simp) rfl (by simp) ⟨.inr (.inr ⟨rfl,by simp,by simp⟩),trivial⟩ (by simp [tmV,abV,bxO,scC,inL]) ?_
  ·simp [scal,rows,ints,tmV,abV,bxO,scC,inL]
  ·simp [scal,rows,ints,tmV,abV,bxO,scC,inL]
  simp (maxSteps:=2000000) (disch:=omega) [ints,rows,scal,zK,wr8,bxO,scC,inL]
  and_intros <;> try first | apply hK | omega | rfl | simp <;> omega
  show awp _ _ _ _
  refine rr0 ?_
  refine ⟨k + 1,by omega,by omega,?_⟩
  exact kw1 [(0,some 0)] (an @bxO.eq_1 (an @scC.eq_1 @inL.eq_1))
 ·obtain rfl : k = ts.length:=by omega
  rw [List.take_length]
  refine cF0 ?_
  refine zG ?_
  show awp _ _ _ _
  refine rg1 (an @bxO.eq_1 (an @scC.eq_1 @inL.eq_1)) ?_
  exact zC rt0
theorem zGQ (ts : List Tm) (hts : ts.length <= 1000) (hok : ∀ t ∈ ts,t.ok = true /\ t.sz <= 1000) : FnA Tryz.prog 67 [.t 0 (.sl 3 (cellsL ts))] (.t 2 (.bool (zAj ts))):=by
 refine fI 18 #[.tmp 2] Tryz.func67 rfl ?_
 refine rg0 ?_
 refine rg1 @zPT ?_
 refine zA ?_
 refine rg0 ?_
 refine zB ?_
 refine awp_loop (fun k : Nat=>mkS [(3,.ptr 0 0 1),(6,.t 0 (.sl 3 (cellsL ts))),(7,.t 2 (.int .i64 ts.length)),(8,.t 2 (.int .i64 k))] [(0,bxO 4 (boL (zAj (ts.take k))))] 1 18 [.any]) (fun k=>k <= ts.length) (fun k=>ts.length - k) ?_ ?_
 ·refine ⟨0,by omega,?_⟩
  refine zQ [(0,some 1000000)] rfl ?_ ?_ ?_ ?_
  all_goals try simp [ints,bxO,scC,boL,zAj,zPT]
 intro k hk
 refine rg0 ?_
 refine zA ?_
 by_cases hkl : k < ts.length
 ·obtain ⟨b,hb⟩ : ∃ b,b = ts[k]:=⟨_,rfl⟩
  have hcut:=zAv ts k hkl
  have hgt:=zKS hkl
  rw [← hb] at hcut hgt
  rw [Tm.zAi] at hcut
  obtain ⟨hbo,hbs⟩:=hok b (by rw [hb]; exact List.getElem_mem hkl)
  have hV:=zGW (S:=Bool) (L0:=boL) (ty0:=4) (c0:=1) (F:=104) (by kernel_rfl) hoS (fun s x hx=>by simp [boL] at hx; subst hx; rfl) (fun s=>rfl) zKX b (zAj (ts.take k)) (0,0) hbo hbs
  rw [zPb b,← hgt] at hV
  refine cK1 @hkl ?_
  refine zA ?_
  refine zB ?_
  refine rg1 (an @hcut @hkl) ?_
  refine zAh fun K hK=>?_
  simp (maxSteps:=2000000) (disch:=omega) [ints,rows,scal,zK,wr8,zd]
  (repeat' apply And.intro)
  all_goals (try omega)
  refine zAc (caps:=[]) (hV) [0] [0] 1 rfl rfl rfl rfl (by kernel_rfl) (by simp) ?_ ?_ (by simp) rfl (by simp) ⟨.inr (.inr ⟨rfl,by simp,by simp⟩),trivial⟩ (by simp [tmV,abV,bxO,scC,boL]) ?_
  ·simp [scal,rows,ints,tmV,abV,bxO,scC,boL]
  ·simp [scal,rows,ints,tmV,abV,bxO,scC,boL]
  simp (maxSteps:=2000000) (disch:=omega) [ints,rows,scal,zK,wr8,bxO,scC,boL]
  and_intros <;> try first | apply hK | omega | rfl | simp <;> omega
  show awp _ _ _ _
  refine rr0 ?_
  refine ⟨k + 1,by omega,by omega,?_⟩
  exact kw1 [(0,some 0)] (an @bxO.eq_1 (an @scC.eq_1 @boL.eq_1))
 ·obtain rfl : k = ts.length:=by omega
  rw [List.take_length]
  refine cF0 ?_
  refine zG ?_
  show awp _ _ _ _
  refine rg1 (an @bxO.eq_1 (an @scC.eq_1 @boL.eq_1)) ?_
  exact zC rt0
theorem zR4 {a b : Tm} (h : a.val = true /\ b.val = true) : vId a b = 0:=by unfold vId vTm; rw [if_pos h.1,if_pos h.2]
theorem zTQ {a b : Tm} (h : ¬ (a.val = true /\ b.val = true)) : vId a b = 21:=by
 unfold vId vTm
 by_cases h1 : a.val = true
 ·rw [if_pos h1,if_neg (fun h2=>h ⟨h1,h2⟩)]
 ·rw [if_neg h1]
theorem zHZ : List.range 6 = [0,1,2,3,4,5]:=rfl
theorem zIU {a b : Tm} (h : a.val = true /\ b.val = true) : ∀ t ∈ [a,b],t.ok = true /\ t.sz <= 1000:=fun t ht=>by
 simp at ht
 rcases ht with rfl | rfl
 ·have:=zB6 h.1; exact ⟨this.1,by omega⟩
 ·have:=zB6 h.2; exact ⟨this.1,by omega⟩
theorem zMD (a b : Tm) : cellsL [a,b] = [.int .i64 a.op,.int .i64 a.n,.sl 3 (cellsL a.args),.int .i64 b.op,.int .i64 b.n,.sl 3 (cellsL b.args)]:=by
 show a.cells ++ (b.cells ++ []) = _
 rw [Tm.zAi,Tm.zAi]
 rfl
theorem zBn (t : List (List Int)) : FnA Tryz.prog 64 [.t 0 (rows t)] (.t 2 (.int .i64 (zCb t))):=by
 intro w V ob vs hm hn hv
 have g0:=(hv 0 _ rfl).rep
 rw [vs1 hn]
 refine (zHQ w _ t (zNv zOv g0)).mono ?_
 rintro e w' ⟨rfl,hbel⟩
 exact ⟨_,ob,rfl,hm.after hbel,.mkInt _ _ _ _,zSZ (by simp)⟩
def zHw (T : Nat -> Nat -> Nat) (k e : Nat) : Bool:=(List.range k).all fun x=>decide (T e x = x) && decide (T x e = x)
theorem zHR (T : Nat -> Nat -> Nat) (k e : Nat) : zHw T (k + 1) e = (zHw T k e && (decide (T e k = k) && decide (T k e = k))):=by
 unfold zHw
 rw [List.range_succ,List.all_append]
 simp
theorem zMR {T : Nat -> Nat -> Nat} {e : Nat} : ∀ {k n : Nat},k <= n -> zHw T k e = false -> zHw T n e = false:=fun {k n} h hf=>by
 obtain ⟨d,rfl⟩ : ∃ d,n = k + d:=⟨n - k,by omega⟩
 clear h
 induction d with
 | zero=>exact hf
 | succ d ih=>rw [show k + (d + 1) = (k + d) + 1 by omega,zHR,ih]; rfl
def idG (T : Nat -> Nat -> Nat) (n : Nat) : Nat -> Nat -> Int
 | 0,e=>-1
 | f + 1,e=>if zHw T n e = true then (e : Int) else idG T n f (e + 1)
def idI (T : Nat -> Nat -> Nat) (n : Nat) : Int:=idG T n n 0
theorem zLz (tb : List (List Int)) (n : Nat) (T : Nat -> Nat -> Nat) (ht : TbL tb n T) (hn : n <= 1000) (e : Nat) (he : e < n) :
  FnS Tryz.prog 102 [.t 2 (.int .i64 (e : Nat)),.ptr 0 0 1] [.box 26 [.t 1 (rows tb)]] (.t 2 (.bool (zHw T n e))) [.box 26 [.t 1 (rows tb)]]:=by
 have htl:=ht.len
 refine fI 31 #[.tmp 3] Tryz.func102 rfl ?_
 refine rg0 ?_
 refine zA ?_
 refine rg0 ?_
 refine zB ?_
 refine awp_loop (fun k : Nat=>mkS [(0,.t 2 (.int .i64 (e : Nat))),(1,.ptr 0 0 1),(6,.t 2 (.int .i64 (n : Nat))),(7,.t 2 (.int .i64 (k : Nat)))] [(0,.box 26 [.t 1 (rows tb)])] 1 31 [.any,.ptr 0 0 1]) (fun k=>k <= n /\ zHw T k e = true) (fun k=>n - k) ?_ ?_
 ·refine ⟨0,⟨by omega,rfl⟩,?_⟩
  exact kw1 [(0,some 0)] (an @rows.eq_1 @htl)
 rintro k ⟨hk,hid⟩
 refine rg0 ?_
 refine zA ?_
 by_cases hkn : k < n
 ·obtain ⟨g1,g2,g3⟩:=ht.get he hkn
  obtain ⟨g4,g5,g6⟩:=ht.get hkn he
  have hs:=zHR T k e
  rw [hid,Bool.true_and] at hs
  refine cK1 @hkn ?_
  refine zA ?_
  refine zB ?_
  refine rg0 ?_
  by_cases e1 : T e k = k
  ·by_cases e2 : T k e = k
   ·have hgo : zHw T (k + 1) e = true:=by rw [hs]; simp [e1,e2]
    have e1' : ((T e k : Nat) : Int) = (k : Int):=by rw [e1]
    have e2' : ((T k e : Nat) : Int) = (k : Int):=by rw [e2]
    refine rg1 (an @g1 (an @g2 (an @g3 (an @g4 (an @g5 (an @g6 (an @e1 @e2))))))) ?_
    refine cY1 (an @e1 @e2) ?_
    show awp _ _ _ _
    refine rr0 ?_
    refine ⟨k + 1,⟨by omega,hgo⟩,by omega,?_⟩
    exact kw1 [(0,some 0)] @rows.eq_1
   ·have hno : zHw T n e = false:=zMR (k:=k + 1) (by omega) (by rw [hs]; simp [e2])
    refine rg1 (an @g1 (an @g2 (an @g3 (an @g4 (an @g5 (an @g6 (an @e1 @e2))))))) ?_
    refine cT1 (an @e1 @e2) ?_
    refine rg0 ?_
    refine zC ?_
    exact zCW @hno
  ·have hno : zHw T n e = false:=zMR (k:=k + 1) (by omega) (by rw [hs]; simp [e1])
   have e1b : (((T e k : Nat) : Int) != (k : Int)) = true:=by simp; omega
   refine rg1 (an @g1 (an @g2 (an @g3 (an @g4 (an @g5 (an @g6 (an @e1 @e1b))))))) ?_
   refine cT1 @e1 ?_
   refine rg0 ?_
   refine zC ?_
   exact zCW @hno
 ·obtain rfl : k = n:=by omega
  refine cF0 ?_
  refine zG ?_
  show awp _ _ _ _
  refine rg0 ?_
  refine zC ?_
  exact zCW @hid
theorem zMX (tb : List (List Int)) (n : Nat) (T : Nat -> Nat -> Nat) (ht : TbL tb n T) (hn : n <= 1000) :
  FnS Tryz.prog 100 [.t 0 (ints (tab n fun i=>(i : Int))),.fn 102 [.ptr 0 0 1]] [.box 26 [.t 1 (rows tb)]] (.t 2 (.int .i64 (idI T n))) [.box 26 [.t 1 (rows tb)]]:=by
 refine fI 19 #[.tmp 4] Tryz.func100 rfl ?_
 refine rg0 ?_
 refine zA ?_
 refine rg0 ?_
 refine zB ?_
 refine awp_loop (fun k : Nat=>mkS [(0,.t 0 (ints (tab n fun i=>(i : Int)))),(1,.fn 102 [.ptr 0 0 1]),(7,.t 2 (.int .i64 (n : Nat))),(8,.t 2 (.int .i64 (k : Nat)))] [(0,.box 26 [.t 1 (rows tb)])] 1 19 [.any,.any]) (fun k=>k <= n /\ idI T n = idG T n (n - k) k) (fun k=>n - k) ?_ ?_
 ·refine ⟨0,⟨by omega,rfl⟩,?_⟩
  exact kw1 [(0,some 0)] @rows.eq_1
 rintro k ⟨hk,hid⟩
 refine rg0 ?_
 refine zA ?_
 by_cases hkn : k < n
 ·have h1:=zLz tb n T ht hn k hkn
  rw [show n - k = (n - (k + 1)) + 1 by omega,idG] at hid
  refine cK1 @hkn ?_
  refine zA ?_
  refine zB ?_
  refine rg0 ?_
  refine zI fun K hK=>?_
  simp (maxSteps:=2000000) (disch:=omega) [ints,rows,scal,zK,wr8,ints,hkn]
  (repeat' apply And.intro)
  all_goals (try omega)
  refine zD (caps:=[.ptr 0 0 1]) (h1) [0] [0] 1 rfl rfl rfl (by simp) (by first | assumption | kernel_rfl) (by simp) ?_ ?_ (by simp) rfl (by simp) ⟨.inr ⟨rfl,1,_,_,_,_,_,rfl,rfl,(by first | rfl | simp),rfl,(by first | rfl | simp)⟩,trivial⟩ (by simp) ?_
  ·simp [scal,rows,ints]
  ·simp [scal,rows,ints]
  simp (maxSteps:=2000000) (disch:=omega) [ints,rows,scal,zK,wr8,rows]
  (repeat' first | apply hK | apply And.intro) <;> try first | omega | rfl | (simp <;> omega)
  by_cases e : zHw T n k = true
  ·rw [if_pos e] at hid
   refine cT1 @e ?_
   refine rg0 ?_
   refine zC ?_
   exact zCW @hid
  ·rw [if_neg e] at hid
   refine cY1 @e ?_
   show awp _ _ _ _
   refine rr0 ?_
   refine ⟨k + 1,⟨by omega,hid⟩,by omega,?_⟩
   exact kw1 [(0,some 0)] @rows.eq_1
 ·obtain rfl : k = n:=by omega
  rw [Nat.sub_self] at hid
  have hid : idI T k = -1:=hid
  refine cF0 ?_
  refine zG ?_
  show awp _ _ _ _
  refine rg0 ?_
  refine zC ?_
  exact zCW @hid
theorem zHy (tb : List (List Int)) (hn : tb.length <= 1000000) : FnA Tryz.prog 101 [.t 0 (rows tb)] (.t 2 (ints (tab tb.length fun i=>(i : Int)))):=by
 refine fI 19 #[.tmp 2] Tryz.func101 rfl ?_
 refine rg0 ?_
 refine rg0 ?_
 refine zA ?_
 refine rg0 ?_
 refine zB ?_
 refine awp_loop (fun k : Nat=>mkS [(3,.own 0 tb.length),(9,.t 2 (.int .i64 tb.length)),(10,.t 2 (.int .i64 k))] [(0,.row 3 1 2 (tab tb.length fun i=>.int .i64 (if i < k then (i : Int) else 0)))] 1 19 [.any]) (fun k=>k <= tb.length) (fun k=>tb.length - k) ?_ ?_
 ·refine ⟨0,by omega,?_⟩
  exact kw1 [(0,some 3000000)] @zAF
 ·intro k hk
  refine rg0 ?_
  by_cases hlt : k < tb.length
  ·refine zA ?_
   refine cT1 @hlt ?_
   refine zb ?_
   refine zA ?_
   refine zB ?_
   refine rg0 ?_
   refine rr1 @hlt ?_
   show awp _ _ _ _
   refine rr0 ?_
   refine ⟨k + 1,by omega,by omega,?_⟩
   refine zQ [(0,some 0)] rfl ?_ ?_ ?_ ?_
   all_goals try simp [ints]
   rw [zg]
   refine zO (fun i hi=>?_)
   by_cases e : i = k
   ·simp [e]
   ·rw [if_neg e]
    by_cases e2 : i < k
    ·rw [if_pos e2,if_pos (by omega)]
    ·rw [if_neg e2,if_neg (by omega)]
  ·refine zA ?_
   refine cF1 @hlt ?_
   refine zG ?_
   show awp _ _ _ _
   refine rg0 ?_
   refine zC ?_
   refine ⟨⟨.inr rfl,_,[],rfl,trivial,trivial,by simp [ints],?_⟩,by simp [ints]⟩
   simp [ints]
   rw [ze]
   refine zO (fun i hi=>?_)
   rw [if_pos (by omega)]
theorem zIO (tb : List (List Int)) (v1 : zCb tb = 0) : FnA Tryz.prog 99 [.t 0 (rows tb)] (.t 2 (.bool true)):=by
 have h1:=zBn tb
 rw [v1] at h1
 refine fI 6 #[.tmp 2] Tryz.func99 rfl ?_
 refine rg0 ?_
 refine rc0 h1 ?_
 exact zC rt0
theorem zDf (tb : List (List Int)) (v1 : zCb tb = 0) : FnA Tryz.prog 66 [.t 0 (rows tb)] (.t 2 (.int .i64 (idI (zR tb) tb.length))):=by
 obtain ⟨hl0,hl4⟩:=zCI v1
 have h1:=zIO tb v1
 have h2:=zHy tb (by omega)
 have h3:=zMX tb tb.length (zR tb) (TbL.of v1) (by omega)
 refine fI 10 #[.tmp 2] Tryz.func66 rfl ?_
 refine rg0 ?_
 refine zA ?_
 refine rc0 h1 ?_
 refine cS0 ?_
 refine zI fun K hK=>?_
 simp (maxSteps:=2000000) (disch:=omega) [ints,rows,scal,zK,wr8]
 (repeat' apply And.intro)
 all_goals (try omega)
 refine zD (caps:=[]) (h2) [] [] 2 rfl rfl rfl rfl (by kernel_rfl) (by simp) ?_ trivial trivial rfl trivial trivial (by simp) ?_
 ·simp [scal,rows,ints]
 simp (maxSteps:=2000000) (disch:=omega) [ints,rows,scal,zK,wr8]
 (repeat' apply And.intro)
 all_goals (try omega)
 refine zD (caps:=[]) (h3) [0] [8000000] 0 rfl rfl rfl rfl (by kernel_rfl) (by simp) ?_ ?_ (by simp) rfl (by simp) ⟨.inl ⟨by omega,by omega⟩,trivial⟩ (by simp) ?_
 ·simp [scal,rows,ints]
 ·simp [scal,rows,ints]
 simp (maxSteps:=2000000) (disch:=omega) [ints,rows,scal,zK,wr8]
 (repeat' first | apply hK | apply And.intro) <;> try first | omega | rfl | (simp <;> omega)
 exact zC rt0
structure zH7 (T : Nat -> Nat -> Nat) (n : Nat) (set : List Int) : Prop where
 rng : ∀ i (h : i < set.length),0 <= set[i] /\ set[i] < (n : Int)
 asc : ∀ i (h : i + 1 < set.length),set[i] < set[i + 1]
 mul : ∀ x ∈ set,∀ y ∈ set,((T x.toNat y.toNat : Nat) : Int) ∈ set
open Classical in
noncomputable def zCh (T : Nat -> Nat -> Nat) (n : Nat) (set : List Int) : Bool:=decide (zH7 T n set)
open Classical in
theorem zId {T : Nat -> Nat -> Nat} {n : Nat} {set : List Int} (h : zH7 T n set) : zCh T n set = true:=by unfold zCh; exact decide_eq_true h
open Classical in
theorem zHd {T : Nat -> Nat -> Nat} {n : Nat} {set : List Int} (h : ¬ zH7 T n set) : zCh T n set = false:=by unfold zCh; exact decide_eq_false h
def inR (n : Nat) (l : List Int) : List T:=tab n fun j=>.bool (decide ((j : Int) ∈ l))
@[simp] theorem zUC (n : Nat) (l : List Int) : (inR n l).length = n:=by simp [inR]
theorem zQ6 {n : Nat} (l : List Int) {j : Nat} (h : j < n) : (inR n l)[j]? = some (.bool (decide ((j : Int) ∈ l))):=by
 unfold inR; rw [zP _ h]
theorem zQZ {n : Nat} {l : List Int} {k : Nat} (hk : k < l.length) {x : Nat} (hx : l[k] = (x : Int)) : (inR n (l.take k)).set x (.bool true) = inR n (l.take (k + 1)):=by
 unfold inR
 rw [zg]
 refine zO (fun j hj=>?_)
 rw [List.take_succ_eq_append_getElem hk,hx]
 by_cases e : j = x
 ·subst e; simp
 ·have : (j : Int) ≠ (x : Int):=by omega
  rw [if_neg e]
  simp [this]
theorem zQY (n : Nat) : inR n [] = tab n fun _=>.bool false:=by
 unfold inR
 exact zO (fun j _=>by simp)
theorem zCy (tb : List (List Int)) (n : Nat) (T : Nat -> Nat -> Nat) (ht : TbL tb n T) (hn : n <= 1000) (set : List Int) (hs : set.length <= 100000) :
  FnA Tryz.prog 65 [.t 0 (rows tb),.t 0 (ints set)] (.t 2 (.bool (zCh T n set))):=by
 have htl:=ht.len
 refine fI 72 #[.tmp 4] Tryz.func65 rfl ?_
 refine rg0 ?_
 refine rg0 ?_
 refine zA ?_
 refine rg0 ?_
 refine zB ?_
 refine awp_loop (fun k : Nat=>mkS [(0,.t 0 (rows tb)),(1,.t 0 (ints set)),(5,.own 0 n),(15,.t 0 (ints set)),(16,.t 2 (.int .i64 set.length)),(17,.t 2 (.int .i64 k))] [(0,.row 4 1 2 (inR n (set.take k)))] 1 72 [.any,.any]) (fun k=>k <= set.length /\ (∀ i (h : i < set.length),i < k -> 0 <= set[i] /\ set[i] < (n : Int)) /\ ∀ i (h : i + 1 < set.length),i + 1 < k -> set[i] < set[i + 1]) (fun k=>set.length - k) ?_ ?_
 ·refine ⟨0,⟨by omega,fun i h h2=>by omega,fun i h h2=>by omega⟩,?_⟩
  rw [List.take_zero,zQY]
  exact kw1 [(0,some 3000000)] (an @zAF (an @rows.eq_1 @htl))
 rintro k ⟨hk,hr,ha⟩
 refine rg0 ?_
 refine zA ?_
 by_cases hkl : k < set.length
 ·have hfail : (¬ (0 <= set[k] /\ set[k] < (n : Int)) \/ ∃ h : 0 < k,set[k] <= set[k - 1]'(by omega)) -> zCh T n set = false:=fun h=>zHd (fun hc=>by
   rcases h with h | ⟨h0,h⟩
   ·exact h (hc.rng k hkl)
   ·have h2:=hc.asc (k - 1) (by omega)
    have : set[k - 1 + 1]'(by omega) = set[k]:=by congr 1; omega
    rw [this] at h2
    omega)
  refine cK1 @hkl ?_
  refine zA ?_
  refine zB ?_
  refine rg1 @hkl ?_
  refine zA ?_
  by_cases e1 : set[k] < 0
  ·have hf:=hfail (.inl (by omega))
   refine rg1 @e1 ?_
   refine cT1 @e1 ?_
   refine rg0 ?_
   exact zC (rt1 @hf)
  by_cases e2 : (n : Int) <= set[k]
  ·have hf:=hfail (.inl (by omega))
   refine rg1 (an @e1 (an @e2 @htl)) ?_
   refine cT1 @e2 ?_
   refine rg0 ?_
   exact zC (rt1 @hf)
  obtain ⟨x,hx⟩ : ∃ x : Nat,set[k] = (x : Int):=⟨set[k].toNat,by omega⟩
  have hxn : x < n:=by omega
  have e1' : ¬ (x : Int) < 0:=by omega
  have e2' : ¬ (n : Int) <= (x : Int):=by omega
  have hset:=zQZ (n:=n) hkl hx
  by_cases h0 : k = 0
  ·subst h0
   have hset0 : (inR n []).set x (.bool true) = inR n (set.take 1):=hset
   refine rg1 (an @hx (an @e1' (an @e2' @htl))) ?_
   refine cS0 ?_
   refine rr1 (an @hx (an @hxn @hset)) ?_
   show awp _ _ _ _
   refine rr0 ?_
   refine ⟨1,⟨by omega,fun i h h2=>?_,fun i h h2=>by omega⟩,by omega,?_⟩
   ·obtain rfl : i = 0:=by omega
    omega
   exact kw1 [(0,some 0)] (an @hset0 @rows.eq_1)
  ·obtain ⟨j,rfl⟩ : ∃ j,k = j + 1:=⟨k - 1,by omega⟩
   have hjl : j < set.length:=by omega
   have h0' : (0 : Int) < ((j : Int) + 1):=by omega
   by_cases e3 : (x : Int) <= set[j]
   ·have hf:=hfail (.inr ⟨by omega,by rw [hx]; simpa using e3⟩)
    refine rg1 (an @hx (an @e1' (an @e2' (an @e3 (an @h0' (an @htl @hjl)))))) ?_
    refine cT1 @e3 ?_
    refine rg0 ?_
    exact zC (rt1 @hf)
   ·refine rg1 (an @hx (an @e1' (an @e2' (an @e3 (an @h0' (an @htl @hjl)))))) ?_
    refine cS1 @e3 ?_
    refine rr1 (an @hx (an @hxn @hset)) ?_
    show awp _ _ _ _
    refine rr0 ?_
    refine ⟨j + 1 + 1,⟨by omega,fun i h h2=>?_,fun i h h2=>?_⟩,by omega,?_⟩
    ·by_cases hi : i = j + 1
     ·subst hi; omega
     ·exact hr i h (by omega)
    ·by_cases hi : i = j
     ·subst hi; rw [hx]; omega
     ·exact ha i h (by omega)
    exact kw1 [(0,some 0)] (an @hset @rows.eq_1)
 obtain rfl : k = set.length:=by omega
 have hr2 : ∀ i (h : i < set.length),0 <= set[i] /\ set[i] < (n : Int):=fun i h=>hr i h h
 have ha2 : ∀ i (h : i + 1 < set.length),set[i] < set[i + 1]:=fun i h=>ha i h h
 clear hr ha
 rw [List.take_length]
 refine cF0 ?_
 refine zG ?_
 show awp _ _ _ _
 refine zA ?_
 refine rg0 ?_
 refine zB ?_
 refine awp_loop (fun k : Nat=>mkS [(0,.t 0 (rows tb)),(1,.t 0 (ints set)),(5,.own 0 n),(47,.t 0 (ints set)),(48,.t 2 (.int .i64 set.length)),(49,.t 2 (.int .i64 k))] [(0,.row 4 1 2 (inR n set))] 1 72 [.any,.any]) (fun k=>k <= set.length /\ ∀ x ∈ set.take k,∀ y ∈ set,((T x.toNat y.toNat : Nat) : Int) ∈ set) (fun k=>set.length - k) ?_ ?_
 ·refine ⟨0,⟨by omega,fun x hx=>by simp at hx⟩,?_⟩
  exact kw1 [(0,some 0)] @rows.eq_1
 rintro k ⟨hk,hm⟩
 refine rg0 ?_
 refine zA ?_
 by_cases hkl : k < set.length
 case neg =>
  obtain rfl : k = set.length:=by omega
  rw [List.take_length] at hm
  have ht:=zId (T:=T) (n:=n) (set:=set) ⟨hr2,ha2,hm⟩
  refine cF0 ?_
  refine zG ?_
  show awp _ _ _ _
  refine rg0 ?_
  exact zC (rt1 @ht)
 obtain ⟨x,hx⟩ : ∃ x : Nat,set[k] = (x : Int):=⟨set[k].toNat,by have:=hr2 k hkl; omega⟩
 have hxn : x < n:=by have:=hr2 k hkl; omega
 refine cK1 @hkl ?_
 refine zA ?_
 refine zB ?_
 refine rg1 (an @hkl @hx) ?_
 refine rg0 ?_
 refine zB ?_
 refine awp_loop (fun j : Nat=>mkS [(0,.t 0 (rows tb)),(1,.t 0 (ints set)),(5,.own 0 n),(9,.t 2 (.int .i64 (x : Nat))),(47,.t 0 (ints set)),(48,.t 2 (.int .i64 set.length)),(49,.t 2 (.int .i64 k)),(53,.t 0 (ints set)),(54,.t 2 (.int .i64 set.length)),(55,.t 2 (.int .i64 j))] [(0,.row 4 1 2 (inR n set))] 1 72 [.any,.any]) (fun j=>j <= set.length /\ ∀ y ∈ set.take j,((T x y.toNat : Nat) : Int) ∈ set) (fun j=>set.length - j) ?_ ?_
 ·refine ⟨0,⟨by omega,fun x hx=>by simp at hx⟩,?_⟩
  exact kw1 [(0,some 0)] @rows.eq_1
 rintro j ⟨hj,hmj⟩
 refine rg0 ?_
 refine zA ?_
 by_cases hjl : j < set.length
 ·obtain ⟨y,hy⟩ : ∃ y : Nat,set[j] = (y : Int):=⟨set[j].toNat,by have:=hr2 j hjl; omega⟩
  have hyn : y < n:=by have:=hr2 j hjl; omega
  obtain ⟨g1,g2,g3⟩:=ht.get hxn hyn
  have hlt:=ht.lt x y hxn hyn
  have hin:=zQ6 set hlt
  refine cK1 @hjl ?_
  refine zA ?_
  refine zB ?_
  refine rg1 (an @hjl @hy) ?_
  by_cases e : ((T x y : Nat) : Int) ∈ set
  ·rw [decide_eq_true e] at hin
   refine rg1 (an @g1 (an @g2 (an @g3 @hin))) ?_
   refine cY0 ?_
   show awp _ _ _ _
   refine rr0 ?_
   refine ⟨j + 1,⟨by omega,fun z hz=>?_⟩,by omega,?_⟩
   ·rw [List.take_succ_eq_append_getElem hjl] at hz
    rcases List.mem_append.1 hz with hz | hz
    ·exact hmj z hz
    ·simp at hz; subst hz; rw [hy]; exact e
   exact kw1 [(0,some 0)] @rows.eq_1
  ·have hf : zCh T n set = false:=zHd (fun hc=>e (by
    have:=hc.mul set[k] (List.getElem_mem hkl) set[j] (List.getElem_mem hjl)
    rw [hx,hy] at this
    exact this))
   rw [decide_eq_false e] at hin
   refine rg1 (an @g1 (an @g2 (an @g3 @hin))) ?_
   refine cT0 ?_
   refine rg0 ?_
   exact zC (rt1 @hf)
 ·obtain rfl : j = set.length:=by omega
  rw [List.take_length] at hmj
  refine cF0 ?_
  refine zG ?_
  show awp _ _ _ _
  refine rr0 ?_
  refine ⟨k + 1,⟨by omega,fun z hz=>?_⟩,by omega,?_⟩
  ·rw [List.take_succ_eq_append_getElem hkl] at hz
   rcases List.mem_append.1 hz with hz | hz
   ·exact hm z hz
   ·simp at hz; subst hz; rw [hx]; exact hmj
  exact kw1 [(0,some 0)] @rows.eq_1
def zKJ (R : List (List Int)) : Bool:=R.any fun l=>decide (l.length = 0)
def empI : List (List Int) -> Nat -> Int
 | [],k=>-1
 | l :: r,k=>if l.length = 0 then (k : Int) else empI r (k + 1)
theorem zPY : ∀ (R : List (List Int)) (k : Nat),decide (0 <= empI R k) = zKJ R
 | [],k=>rfl
 | l :: r,k=>by
  unfold empI
  show _ = (decide (l.length = 0) || zKJ r)
  by_cases h : l.length = 0
  ·rw [if_pos h,decide_eq_true h,Bool.true_or]
   exact decide_eq_true (by omega)
  ·rw [if_neg h,zPY r,decide_eq_false h,Bool.false_or]
theorem zMO (l : List Int) : FnA Tryz.prog 72 [.t 0 (ints l)] (.t 2 (.bool (decide (l.length = 0)))):=by
 refine fI 6 #[.tmp 2] Tryz.func72 rfl ?_
 refine rg0 ?_
 refine rg0 ?_
 refine zC ?_
 refine ⟨⟨.inr rfl,_,[],rfl,trivial,trivial,by simp,?_⟩,by simp⟩
 simp
 all_goals (by_cases h : l = [] <;> simp [h])
theorem zMC (R : List (List Int)) (hR : R.length <= 1000) : FnA Tryz.prog 108 [.t 0 (rows R),.fn 72 []] (.t 2 (.int .i64 (empI R 0))):=by
 refine fI 19 #[.tmp 4] Tryz.func108 rfl ?_
 refine rg0 ?_
 refine zA ?_
 refine rg0 ?_
 refine zB ?_
 refine awp_loop (fun k : Nat=>mkS [(0,.t 0 (rows R)),(1,.fn 72 []),(7,.t 2 (.int .i64 R.length)),(8,.t 2 (.int .i64 (k : Nat)))] [] 0 19 [.any,.any]) (fun k=>k <= R.length /\ empI R 0 = empI (R.drop k) k) (fun k=>R.length - k) ?_ ?_
 ·refine ⟨0,⟨by omega,rfl⟩,?_⟩
  exact kw1 [] @rows.eq_1
 rintro k ⟨hk,hid⟩
 refine rg0 ?_
 refine zA ?_
 by_cases hkn : k < R.length
 ·have h1:=zMO R[k]
  rw [List.drop_eq_getElem_cons hkn,empI] at hid
  refine cK1 @hkn ?_
  refine zA ?_
  refine zB ?_
  refine rg0 ?_
  refine zI fun K hK=>?_
  simp (maxSteps:=2000000) (disch:=omega) [ints,rows,scal,zK,wr8,rows,hkn]
  (repeat' apply And.intro)
  all_goals (try omega)
  refine zD (caps:=[]) (h1) [] [] 2 rfl rfl rfl (by simp) (by first | assumption | kernel_rfl) (by simp) ?_ ?_ (by simp) rfl (by simp) trivial (by simp [hkn]) ?_
  ·simp [scal,rows,ints,hkn]
  ·simp [scal,rows,ints,hkn]
  simp (maxSteps:=2000000) (disch:=omega) [ints,rows,scal,zK,wr8,rows]
  (repeat' first | apply hK | apply And.intro) <;> try first | omega | rfl | (simp <;> omega)
  by_cases e : R[k].length = 0
  ·rw [if_pos e] at hid
   have e' : R[k] = []:=List.length_eq_zero_iff.1 e
   refine cT1 @e' ?_
   refine rg0 ?_
   exact zC (rt1 @hid)
  ·rw [if_neg e] at hid
   have e' : ¬ R[k] = []:=fun h=>e (by rw [h]; rfl)
   refine cY1 @e' ?_
   show awp _ _ _ _
   refine rr0 ?_
   refine ⟨k + 1,⟨by omega,hid⟩,by omega,?_⟩
   exact kw1 [] @rows.eq_1
 ·obtain rfl : k = R.length:=by omega
  rw [List.drop_length,empI] at hid
  refine cF0 ?_
  refine zG ?_
  show awp _ _ _ _
  refine rg0 ?_
  exact zC (rt1 @hid)
theorem zLI (R : List (List Int)) (hR : R.length <= 1000) : FnA Tryz.prog 71 [.t 0 (rows R),.fn 72 []] (.t 2 (.bool (zKJ R))):=by
 have h1:=zMC R hR
 have h2:=zPY R 0
 refine fI 9 #[.tmp 4] Tryz.func71 rfl ?_
 refine rg0 ?_
 refine rc1 h1 @h2 ?_
 exact zC rt0
end Go.Proofs.YtgelfgpcnaeecaaGreatDoor.M

namespace Go.Proofs.YtgelfgpcnaeecaaGreatDoor.M
open Go.RowKit
set_option linter.unusedVariables false
set_option linter.unusedSimpArgs false
set_option maxRecDepth 100000
set_option maxHeartbeats 32000000

def upB (f : Nat -> Bool) (k : Nat) (v : Bool) : Nat -> Bool:=fun i=>if i = k then v else f i
mutual
def Tm.occ (i : Nat) : Tm -> Bool
 | .mk o n l=>(decide (o = 2) && decide (n.toNat = i)) || occL i l
def occL (i : Nat) : List Tm -> Bool
 | []=>false
 | a :: r=>a.occ i || occL i r
end
mutual
def Tm.els (i : Nat) : Int × Int -> Tm -> Bool
 | a,.mk o n l=>(decide (o = 2) && decide (n.toNat = i) && !(decide (a.1 = 4) && decide (a.2 = 0))) || elsL i (o,n) l
def elsL (i : Nat) : Int × Int -> List Tm -> Bool
 | a,[]=>false
 | a,t :: r=>t.els i a || elsL i a r
end
abbrev BB:=(Nat -> Bool) × (Nat -> Bool)
def raS (s : BB) (h a : Int × Int) : BB:=if h.1 = 2 then (upB s.1 h.2.toNat true,upB s.2 h.2.toNat (s.2 h.2.toNat || !(decide (a.1 = 4) && decide (a.2 = 0)))) else s
mutual
theorem zM6 : ∀ (t : Tm) (s : BB) (a : Int × Int),t.vis raS s a = (fun i=>s.1 i || t.occ i,fun i=>s.2 i || t.els i a)
 | .mk o n l,s,a=>by
  rw [Tm.vis,zMx l]
  have h1 : raS s (o,n) a = (fun i=>s.1 i || (decide (o = 2) && decide (n.toNat = i)),fun i=>s.2 i || (decide (o = 2) && decide (n.toNat = i) && !(decide (a.1 = 4) && decide (a.2 = 0)))):=by
   unfold raS upB
   by_cases h : o = 2
   ·rw [if_pos h]
    congr 1
    ·funext i
     by_cases hi : i = n.toNat
     ·simp [hi,h]
     ·have : ¬ n.toNat = i:=fun e=>hi e.symm
      simp [hi,this]
    ·funext i
     by_cases hi : i = n.toNat
     ·simp [hi,h]
     ·have : ¬ n.toNat = i:=fun e=>hi e.symm
      simp [hi,this]
   ·rw [if_neg h]
    simp [h]
  rw [h1]
  congr 1
  ·funext i; rw [Tm.occ,Bool.or_assoc]
  ·funext i; rw [Tm.els,Bool.or_assoc]
theorem zMx : ∀ (l : List Tm) (s : BB) (a : Int × Int),visL raS s a l = (fun i=>s.1 i || occL i l,fun i=>s.2 i || elsL i a l)
 | [],s,a=>by
  rw [visL]
  simp [occL,elsL]
 | t :: l,s,a=>by
  rw [visL,zM6 t s a,zMx l]
  congr 1
  ·funext i; rw [occL,Bool.or_assoc]
  ·funext i; rw [elsL,Bool.or_assoc]
end
def baL (f : Nat -> Bool) : List T:=tab 6 fun i=>.bool (f i)
@[simp] theorem zFf (f : Nat -> Bool) : (baL f).length = 6:=by simp [baL]
theorem zHl (f : Nat -> Bool) {j : Nat} (h : j < 6) : (scC (baL f))[j]? = some (.t 2 (.bool (f j))):=by
 unfold scC baL
 rw [List.getElem?_map,zP _ h]
 rfl
theorem zAx (f : Nat -> Bool) (j : Nat) (v : Bool) : (scC (baL f)).set j (.t 2 (.bool v)) = scC (baL (upB f j v)):=by
 unfold scC baL
 rw [ze,ze,zg]
 refine zO (fun i hi=>?_)
 unfold upB
 by_cases h : i = j
 ·rw [if_pos h,if_pos h]
 ·rw [if_neg h,if_neg h]
theorem zEv (f : Nat -> Bool) : ∀ x ∈ baL f,scal x = true:=fun x hx=>by
 unfold baL tab at hx
 obtain ⟨i,-,rfl⟩:=List.mem_map.1 hx
 rfl
theorem zE4 (s : BB) (t : Tm) (a : Int × Int) (ho : t.ok = true) : FnS Tryz.prog 105 [tmV 0 t,abV a,.ptr 0 0 6,.ptr 1 0 6] [bxO 185 (baL s.1),bxO 185 (baL s.2)] (.tup []) [bxO 185 (baL (raS s (t.op,t.n) a).1),bxO 185 (baL (raS s (t.op,t.n) a).2)]:=by
 have hwf : t.wf = true:=by rw [ok_eq,Bool.and_eq_true] at ho; exact ho.1
 unfold Tm.wf at hwf
 rw [decide_eq_true_iff] at hwf
 refine fI 29 #[] Tryz.func105 rfl ?_
 refine rg1 (an @tmV.eq_1 (an @abV.eq_1 @bxO.eq_1)) ?_
 refine rg1 (an @zd @bxO.eq_1) ?_
 by_cases e : t.op = 2
 ·obtain ⟨j,hj⟩ : ∃ j : Nat,t.n = (j : Int):=⟨t.n.toNat,by omega⟩
  have hj6 : j < 6:=by omega
  have hg2:=zHl s.2 hj6
  have hr : raS s (t.op,t.n) a = (upB s.1 j true,upB s.2 j (s.2 j || !(decide (a.1 = 4) && decide (a.2 = 0)))):=by unfold raS; rw [if_pos e,hj,Int.toNat_natCast]
  rw [hr]
  refine cT1 @e ?_
  refine rg1 (an @bxO.eq_1 (an @hj @zAx)) ?_
  cases hb : s.2 j with
  | true =>
   rw [hb] at hg2
   refine zAm (by kernel_rfl) (fun K hK=>?_)
   simp (maxSteps:=2000000) (disch:=omega) [ints,rows,scal,zK,wr8,bxO,hj,zAx,hg2]
   (repeat' first | apply hK | apply And.intro) <;> try first | (show zA8 _ _ = true; kernel_rfl) | (show okH _ _ _ = true; kernel_rfl) | omega | rfl | (simp <;> omega)
   refine ⟨_,[(0,some 0),(1,some 1)],(by first | rfl | (simp [ints,rows,scal,tmV,abV,bxO,zAx,zAg]; rfl)),?_,?_,?_,?_⟩
   all_goals try simp [ints,rows,scal,tmV,abV,bxO,zAx,zAg]
  | false =>
   rw [hb] at hg2
   by_cases e1 : a.1 = 4
   ·have e1b : (a.1 != 4) = false:=by simpa using e1
    by_cases e2 : a.2 = 0
    ·have e2b : (a.2 != 0) = false:=by simpa using e2
     refine zAm (by kernel_rfl) (fun K hK=>?_)
     simp (maxSteps:=2000000) (disch:=omega) [ints,rows,scal,zK,wr8,bxO,hj,zAx,hg2,e1,e2]
     (repeat' first | apply hK | apply And.intro) <;> try first | (show zA8 _ _ = true; kernel_rfl) | (show okH _ _ _ = true; kernel_rfl) | omega | rfl | (simp <;> omega)
     refine ⟨_,[(0,some 0),(1,some 1)],(by first | rfl | (simp [ints,rows,scal,tmV,abV,bxO,zAx,zAg,e1,e2]; rfl)),?_,?_,?_,?_⟩
     all_goals try simp [ints,rows,scal,tmV,abV,bxO,zAx,zAg,e1,e2]
    ·have e2b : (a.2 != 0) = true:=by simpa using e2
     refine zAm (by kernel_rfl) (fun K hK=>?_)
     simp (maxSteps:=2000000) (disch:=omega) [ints,rows,scal,zK,wr8,bxO,hj,zAx,hg2,e1,e2,e2b]
     (repeat' first | apply hK | apply And.intro) <;> try first | (show zA8 _ _ = true; kernel_rfl) | (show okH _ _ _ = true; kernel_rfl) | omega | rfl | (simp <;> omega)
     refine ⟨_,[(0,some 0),(1,some 1)],(by first | rfl | (simp [ints,rows,scal,tmV,abV,bxO,zAx,zAg,e1,e2]; rfl)),?_,?_,?_,?_⟩
     all_goals try simp [ints,rows,scal,tmV,abV,bxO,zAx,zAg,e1,e2]
   ·have e1b : (a.1 != 4) = true:=by simpa using e1
    refine zAm (by kernel_rfl) (fun K hK=>?_)
    simp (maxSteps:=2000000) (disch:=omega) [ints,rows,scal,zK,wr8,bxO,hj,zAx,hg2,e1,e1b]
    (repeat' first | apply hK | apply And.intro) <;> try first | (show zA8 _ _ = true; kernel_rfl) | (show okH _ _ _ = true; kernel_rfl) | omega | rfl | (simp <;> omega)
    refine ⟨_,[(0,some 0),(1,some 1)],(by first | rfl | (simp [ints,rows,scal,tmV,abV,bxO,zAx,zAg,e1]; rfl)),?_,?_,?_,?_⟩
    all_goals try simp [ints,rows,scal,tmV,abV,bxO,zAx,zAg,e1]
 ·have hr : raS s (t.op,t.n) a = s:=by unfold raS; rw [if_neg e]
  rw [hr]
  refine cF1 @e ?_
  refine zb ?_
  refine ⟨⟨.inl rfl,_,[(0,some 0),(1,some 1)],rfl,?_,?_,?_,?_⟩,?_⟩
  all_goals simp [tmV,abV,bxO,zAg]
def rgV (R : Nat -> List Int) (nv i : Nat) (c : AV) : List AV:=tab nv fun j=>if j < i then .t 2 (ints (R j)) else if j = i then c else .t 2 (.sl 0 [])
section
variable {R : Nat -> List Int} {nv i : Nat} {c c' : AV} {H : Nat -> Option AObj} {m : Nat -> Option Nat} {un : Nat -> Prop} {nx : Nat}
@[simp] theorem zT1 : (rgV R nv i c).length = nv:=by simp [rgV]
theorem zQP (h : i < nv) : (rgV R nv i c)[i]? = some c:=by
 unfold rgV
 rw [zP _ h,if_neg (by omega),if_pos rfl]
theorem zNT : (rgV R nv i c).set i c' = rgV R nv i c':=by
 unfold rgV
 rw [zg]
 refine zO (fun j hj=>?_)
 by_cases h : j = i
 ·rw [if_pos h,if_neg (by omega),if_pos h]
 ·rw [if_neg h]
  by_cases h2 : j < i
  ·rw [if_pos h2,if_pos h2]
  ·rw [if_neg h2,if_neg h,if_neg h2,if_neg h]
theorem zE5 {j : Nat} {a : AV} (h : (rgV R nv i c)[j]? = some a) : j < nv /\ a = if j < i then .t 2 (ints (R j)) else if j = i then c else .t 2 (.sl 0 []):=by
 have hl : j < nv:=by have:=(List.getElem?_eq_some_iff.1 h).1; simpa using this
 unfold rgV at h
 rw [zP _ hl] at h
 injection h with h
 exact ⟨hl,h.symm⟩
theorem zEn (hv : wkP H m un nx c c') : wkPs H m un nx (rgV R nv i c) (rgV R nv i c') = True:=by
 refine eq_true (zBx (by simp) (fun j a b ha hb=>?_))
 obtain ⟨h1,rfl⟩:=zE5 ha
 obtain ⟨-,rfl⟩:=zE5 hb
 by_cases h2 : j < i
 ·rw [if_pos h2,if_pos h2]; exact ⟨rfl,Nat.le_refl _⟩
 ·rw [if_neg h2,if_neg h2]
  by_cases h3 : j = i
  ·rw [if_pos h3,if_pos h3]; exact hv
  ·rw [if_neg h3,if_neg h3]; exact ⟨rfl,Nat.le_refl _⟩
theorem zPF (hv : wkP H m un nx c (.t 2 (ints (R i)))) : wkPs H m un nx (rgV R nv i c) (rgV R nv (i + 1) (.t 2 (.sl 0 []))):=by
 refine zBx (by simp) (fun j a b ha hb=>?_)
 obtain ⟨h1,rfl⟩:=zE5 ha
 obtain ⟨-,rfl⟩:=zE5 hb
 by_cases h2 : j < i
 ·rw [if_pos h2,if_pos (by omega)]; exact ⟨rfl,Nat.le_refl _⟩
 ·rw [if_neg h2]
  by_cases h3 : j = i
  ·rw [if_pos h3,if_pos (by omega),h3]; exact hv
  ·rw [if_neg h3,if_neg (by omega)]
   by_cases h4 : j = i + 1
   ·rw [if_pos h4]; exact ⟨rfl,Nat.le_refl _⟩
   ·rw [if_neg h4]; exact ⟨rfl,Nat.le_refl _⟩
theorem zN2 : wkPs H m un nx (List.replicate nv (.t 2 (.sl 0 []))) (rgV R nv 0 (.t 2 (.sl 0 []))) = True:=by
 refine eq_true (zBx (by simp) (fun j a b ha hb=>?_))
 obtain ⟨h1,rfl⟩:=zE5 hb
 rw [List.getElem?_replicate,if_pos h1] at ha
 injection ha with ha
 subst ha
 rw [if_neg (by omega)]
 by_cases h3 : j = 0
 ·rw [if_pos h3]; exact ⟨rfl,Nat.le_refl _⟩
 ·rw [if_neg h3]; exact ⟨rfl,Nat.le_refl _⟩
theorem zSg {c : AV} : wkT H un 2 (rgV R nv nv c) ((tab nv R).map ints) = True:=by
 refine eq_true ⟨by simp,fun j a t ha ht=>?_⟩
 obtain ⟨h1,rfl⟩:=zE5 ha
 rw [List.getElem?_map,zP _ h1] at ht
 injection ht with ht
 subst ht
 rw [if_pos h1]
 exact ⟨rfl,Nat.le_refl _⟩
end
def zKd (T : Nat -> Nat -> Nat) (set : List Int) (a b : Tm) (i : Nat) : List Int:=set.filter fun x=>!(a.occ i || b.occ i) || (a.els i (0,0) || b.els i (0,0)) || decide (T x.toNat x.toNat = x.toNat)
def zDa (T : Nat -> Nat -> Nat) (set : List Int) (a b : Tm) : List (List Int):=tab (max a.gr b.gr) (zKd T set a b)
theorem zMf (h : 185 < Tryz.prog.types.size) : (Tryz.prog.types[185]'h).size = 6:=by rfl
theorem zOM : scC (baL fun _=>false) = [.t 2 (.bool false),.t 2 (.bool false),.t 2 (.bool false),.t 2 (.bool false),.t 2 (.bool false),.t 2 (.bool false)]:=rfl
theorem zRd : ∀ (t : Tm),t.ok = true -> t.gr <= 6
 | .mk o n l,hok=>by
  obtain ⟨hwf,hl⟩:=zO4 hok
  have:=grL_6 l hl
  rw [Tm.gr]
  split <;> omega
where grL_6 : ∀ (l : List Tm),zB0 l = true -> grL l <= 6
 | [],_=>by rw [grL]; omega
 | a :: l,hok=>by
  have hok2 : a.ok = true /\ zB0 l = true:=by simpa [zB0] using hok
  have:=zRd a hok2.1
  have:=grL_6 l hok2.2
  rw [grL]; omega
theorem zM0 (tb : List (List Int)) (n : Nat) (T : Nat -> Nat -> Nat) (ht : TbL tb n T) (hn : n <= 1000) (set : List Int) (hs : set.length <= 100000) (hr : ∀ i (h : i < set.length),0 <= set[i] /\ set[i] < (n : Int)) (a b : Tm) (hv : a.val = true /\ b.val = true) :
  FnA Tryz.prog 69 [.t 0 (rows tb),.t 0 (ints set),idV 0 a b] (.t 2 (rows (zDa T set a b))):=by
 obtain ⟨hao,has⟩:=zB6 hv.1
 obtain ⟨hbo,hbs⟩:=zB6 hv.2
 have hga:=zRd a hao
 have hgb:=zRd b hbo
 have hV1:=zGV (S:=BB) (L0:=fun s=>baL s.1) (L1:=fun s=>baL s.2) (ty0:=185) (ty1:=185) (c0:=6) (c1:=6) (F:=105) (by kernel_rfl) raS (fun s=>zEv s.1) (fun s=>zFf s.1) (fun s=>zEv s.2) (fun s=>zFf s.2) zE4 a (fun _=>false,fun _=>false) (0,0) hao (by omega)
 rw [zM6 a] at hV1
 have hV2:=zGV (S:=BB) (L0:=fun s=>baL s.1) (L1:=fun s=>baL s.2) (ty0:=185) (ty1:=185) (c0:=6) (c1:=6) (F:=105) (by kernel_rfl) raS (fun s=>zEv s.1) (fun s=>zFf s.1) (fun s=>zEv s.2) (fun s=>zFf s.2) zE4 b (fun i=>false || a.occ i,fun i=>false || a.els i (0,0)) (0,0) hbo (by omega)
 rw [zM6 b] at hV2
 simp only [Bool.false_or] at hV1 hV2
 have hVs:=zRD [a,b] (by simp) (zIU hv)
 obtain ⟨nv,hnv⟩ : ∃ nv,nv = max a.gr b.gr:=⟨_,rfl⟩
 rw [show grL [a,b] = nv by rw [grL,grL,grL]; omega] at hVs
 have hnv6 : nv <= 6:=by omega
 have hi1 : ∀ (H : Nat -> Option AObj) (pi : List Nat) (q : Nat) (f : Nat -> Bool),inPs H pi q (scC (baL f)) (scC (baL f)) = True:=fun H pi q f=>zG8 (zEv f)
 have ho1 : ∀ (po : List Nat) (q : Nat) (f : Nat -> Bool),outVs po q (scC (baL f)) = scC (baL f):=fun po q f=>zDu (zEv f)
 refine fI 76 #[.tmp 6] Tryz.func69 rfl ?_
 unfold zDa
 rw [← hnv]
 refine rg1 @idV.eq_1 ?_
 refine rg1 @zMf ?_
 refine rg0 ?_
 refine zX (σ':=mkS [(0,.t 0 (rows tb)),(1,.t 0 (ints set)),(5,.ptr 2 0 6),(7,.ptr 0 0 6),(8,.ptr 1 0 6),(9,.fn 105 [.ptr 0 0 6,.ptr 1 0 6])] [(0,bxO 185 (baL fun _=>false)),(1,bxO 185 (baL fun _=>false)),(2,.box 71 [.t 2 (.int .i64 a.op),.t 2 (.int .i64 a.n),.t 0 (.sl 3 (cellsL a.args)),.t 2 (.int .i64 b.op),.t 2 (.int .i64 b.n),.t 0 (.sl 3 (cellsL b.args))])] 3 76 [.any,.any,.any]) ?_ ?_
 ·exact kw1 [(0,some 2000000),(1,some 3000000),(2,some 0)] (an @bxO.eq_1 (an @zOM (an @rows.eq_1 (an @idV.eq_1 @zMf))))
 refine zI fun K hK=>?_
 simp (maxSteps:=2000000) (disch:=omega) [ints,rows,scal,zK,wr8,zd]
 (repeat' apply And.intro)
 all_goals (try omega)
 refine zAc (caps:=[]) (hV1) [0,1] [0,1] 1 rfl rfl rfl rfl (by kernel_rfl) (by simp) ?_ ?_ (by simp) rfl (by simp) ⟨.inr (.inr ⟨rfl,by simp,by simp⟩),.inr (.inr ⟨rfl,by simp,by simp⟩),trivial⟩ (by simp [tmV,abV,bxO,hi1,ho1]) ?_
 ·simp [scal,rows,ints,tmV,abV,bxO,hi1,ho1]
 ·simp [scal,rows,ints,tmV,abV,bxO,hi1,ho1]
 simp (maxSteps:=2000000) (disch:=omega) [ints,rows,scal,zK,wr8,bxO,ho1]
 and_intros <;> try first | apply hK | omega | rfl | simp <;> omega
 refine zI fun K hK=>?_
 simp (maxSteps:=2000000) (disch:=omega) [ints,rows,scal,zK,wr8,zd]
 (repeat' apply And.intro)
 all_goals (try omega)
 refine zAc (caps:=[]) (hV2) [0,1] [0,1] 1 rfl rfl rfl rfl (by kernel_rfl) (by simp) ?_ ?_ (by simp) rfl (by simp) ⟨.inr (.inr ⟨rfl,by simp,by simp⟩),.inr (.inr ⟨rfl,by simp,by simp⟩),trivial⟩ (by simp [tmV,abV,bxO,hi1,ho1]) ?_
 ·simp [scal,rows,ints,tmV,abV,bxO,hi1,ho1]
 ·simp [scal,rows,ints,tmV,abV,bxO,hi1,ho1]
 simp (maxSteps:=2000000) (disch:=omega) [ints,rows,scal,zK,wr8,bxO,ho1]
 (repeat' first | apply hK | apply And.intro) <;> try first | omega | rfl | (simp <;> omega)
 refine rc1 hVs (an @zd (an @zHZ (an @zMD @bxO.eq_1))) ?_
 refine zA ?_
 refine rg1 @bxO.eq_1 ?_
 refine zB ?_
 refine awp_loop (fun i : Nat=>mkS [(0,.t 0 (rows tb)),(1,.t 0 (ints set)),(7,.ptr 0 0 6),(8,.ptr 1 0 6),(10,.own 2 nv),(33,.t 2 (.int .i64 nv)),(34,.t 2 (.int .i64 i))] [(0,bxO 185 (baL fun i=>a.occ i || b.occ i)),(1,bxO 185 (baL fun i=>a.els i (0,0) || b.els i (0,0))),(2,.vec 22 1 2 (rgV (zKd T set a b) nv i (.t 2 (.sl 0 []))))] 3 76 [.any,.any,.any]) (fun i=>i <= nv) (fun i=>nv - i) ?_ ?_
 ·refine ⟨0,by omega,?_⟩
  exact kw1 [(0,some 0),(1,some 1),(2,some 16000003)] (an @bxO.eq_1 (an @zAg (an @zN2 @rows.eq_1)))
 intro i hi
 refine rg0 ?_
 refine zA ?_
 by_cases hiv : i < nv
 case neg =>
  obtain rfl : i = nv:=by omega
  refine cF0 ?_
  refine zG ?_
  show awp _ _ _ _
  refine rg0 ?_
  refine zC ?_
  refine ⟨⟨.inr rfl,_,[],(by first | rfl | (simp [ints,rows,scal,zSg,idV]; rfl)),?_,?_,?_,?_⟩,?_⟩
  all_goals try simp [ints,rows,scal,zSg,idV]
 refine cK1 @hiv ?_
 refine zA ?_
 refine zB ?_
 refine rg0 ?_
 refine rg0 ?_
 refine zB ?_
 obtain ⟨P,hP⟩ : ∃ P : Int -> Bool,P = fun x=>!(a.occ i || b.occ i) || (a.els i (0,0) || b.els i (0,0)) || decide (T x.toNat x.toNat = x.toNat):=⟨_,rfl⟩
 have hRi : zKd T set a b i = set.filter P:=by unfold zKd; rw [hP]
 refine awp_loop (fun k : Nat=>mkS [(0,.t 0 (rows tb)),(1,.t 0 (ints set)),(7,.ptr 0 0 6),(8,.ptr 1 0 6),(10,.own 2 nv),(11,.t 2 (.int .i64 i)),(33,.t 2 (.int .i64 nv)),(34,.t 2 (.int .i64 i)),(37,.t 0 (ints set)),(38,.t 2 (.int .i64 set.length)),(39,.t 2 (.int .i64 k))] [(0,bxO 185 (baL fun i=>a.occ i || b.occ i)),(1,bxO 185 (baL fun i=>a.els i (0,0) || b.els i (0,0))),(2,.vec 22 1 2 (rgV (zKd T set a b) nv i (.own 3 ((set.take k).filter P).length))),(3,.row 3 1 2 (((set.take k).filter P).map (.int .i64)))] 4 76 [.any,.any,.any]) (fun k=>k <= set.length) (fun k=>set.length - k) ?_ ?_
 ·refine ⟨0,by omega,?_⟩
  refine zQ [(0,some 0),(1,some 1),(2,some 2),(3,none)] rfl ?_ ?_ ?_ ?_
  all_goals try simp [ints,bxO,zAg,rows,ints]
  rw [zEn (by simp [mpOf])]
  trivial
 intro k hk
 have hfl : ((set.take k).filter P).length <= k:=by
  have:=List.length_filter_le P (set.take k)
  rw [List.length_take] at this
  omega
 refine rg0 ?_
 refine zA ?_
 by_cases hkl : k < set.length
 case neg =>
  obtain rfl : k = set.length:=by omega
  rw [List.take_length]
  refine cF0 ?_
  refine zG ?_
  show awp _ _ _ _
  refine rr0 ?_
  refine ⟨i + 1,by omega,by omega,?_⟩
  refine zQ [(0,some 0),(1,some 1),(2,some 2)] rfl ?_ ?_ ?_ ?_
  all_goals try simp [ints,bxO,zAg,rows,ints]
  refine zPF ?_
  rw [hRi]
  simp [ints]
 obtain ⟨x,hx⟩ : ∃ x : Nat,set[k] = (x : Int):=⟨set[k].toNat,by have:=hr k hkl; omega⟩
 have hxn : x < n:=by have:=hr k hkl; omega
 obtain ⟨g1,g2,g3⟩:=ht.get hxn hxn
 have hgo:=zHl (fun i=>a.occ i || b.occ i) (show i < 6 by omega)
 have hge:=zHl (fun i=>a.els i (0,0) || b.els i (0,0)) (show i < 6 by omega)
 have hPx : P (x : Int) = (!(a.occ i || b.occ i) || (a.els i (0,0) || b.els i (0,0)) || decide (T x x = x)):=by rw [hP]; simp
 have htk : (set.take (k + 1)).filter P = (set.take k).filter P ++ (if P (x : Int) = true then [(x : Int)] else []):=by
  rw [List.take_succ_eq_append_getElem hkl,List.filter_append,hx]
  by_cases h : P (x : Int) = true
  ·simp [h]
  ·simp [h]
 have hgv:=zQP (R:=zKd T set a b) (c:=.own 3 ((set.take k).filter P).length) hiv
 generalize hoc : (a.occ i || b.occ i) = oc at hgo hPx
 generalize hel : (a.els i (0,0) || b.els i (0,0)) = el at hge hPx
 refine cK1 @hkl ?_
 refine zA ?_
 refine zB ?_
 refine rg1 (an @hkl @hx) ?_
 refine zA (zBp (Q:=fun e σ=>e = Exit.normal /\ Wk σ (mkS [(0,.t 0 (rows tb)),(1,.t 0 (ints set)),(7,.ptr 0 0 6),(8,.ptr 1 0 6),(10,.own 2 nv),(11,.t 2 (.int .i64 i)),(13,.t 2 (.int .i64 (x : Nat))),(33,.t 2 (.int .i64 nv)),(34,.t 2 (.int .i64 i)),(37,.t 0 (ints set)),(38,.t 2 (.int .i64 set.length)),(39,.t 2 (.int .i64 k)),(62,.t 2 (.bool (P (x : Int))))] [(0,bxO 185 (baL fun i=>a.occ i || b.occ i)),(1,bxO 185 (baL fun i=>a.els i (0,0) || b.els i (0,0))),(2,.vec 22 1 2 (rgV (zKd T set a b) nv i (.own 3 ((set.take k).filter P).length))),(3,.row 3 1 2 (((set.take k).filter P).map (.int .i64)))] 4 76 [.any,.any,.any])) ?_ ?_)
 ·rw [hPx]
  cases oc with
  | false =>
   refine zAh fun K hK=>?_
   simp (maxSteps:=2000000) (disch:=omega) [ints,rows,scal,zK,wr8,bxO,hgo]
   (repeat' first | apply hK | apply And.intro) <;> try first | omega | rfl | (simp <;> omega)
   refine zQ [(0,some 0),(1,some 1),(2,some 2),(3,some 3)] rfl ?_ ?_ ?_ ?_
   all_goals try simp [ints,bxO,zAg,rows,ints]
   rw [zEn (by simp [mpOf])]
   trivial
  | true=>cases el with
   | true =>
    refine zAh fun K hK=>?_
    simp (maxSteps:=2000000) (disch:=omega) [ints,rows,scal,zK,wr8,bxO,hgo,hge]
    (repeat' first | apply hK | apply And.intro) <;> try first | omega | rfl | (simp <;> omega)
    refine zQ [(0,some 0),(1,some 1),(2,some 2),(3,some 3)] rfl ?_ ?_ ?_ ?_
    all_goals try simp [ints,bxO,zAg,rows,ints]
    rw [zEn (by simp [mpOf])]
    trivial
   | false =>
    refine zAh fun K hK=>?_
    simp (maxSteps:=2000000) (disch:=omega) [ints,rows,scal,zK,wr8,bxO,hgo,hge,rows,ints,g1,g2,g3]
    (repeat' first | apply hK | apply And.intro) <;> try first | omega | rfl | (simp <;> omega)
    refine zQ [(0,some 0),(1,some 1),(2,some 2),(3,some 3)] rfl ?_ ?_ ?_ ?_
    all_goals try simp [ints,bxO,zAg,rows,ints]
    ·by_cases h : T x x = x
     ·rw [h]; simp
     ·have h2 : ((T x x : Nat) : Int) ≠ (x : Int):=by omega
      rw [decide_eq_false h]; exact beq_eq_false_iff_ne.2 h2
    rw [zEn (by simp [mpOf])]
    trivial
 rintro e σ ⟨rfl,hw⟩
 refine zX hw ?_
 clear hw
 show awp _ _ _ _
 by_cases hp : P (x : Int) = true
 ·rw [if_pos hp] at htk
  rw [hp]
  refine cT0 ?_
  refine rr1 (an @hgv @zNT) ?_
  show awp _ _ _ _
  refine rr0 ?_
  refine ⟨k + 1,by omega,by omega,?_⟩
  rw [htk]
  refine zQ [(0,some 0),(1,some 1),(2,some 2),(3,some 3)] rfl ?_ ?_ ?_ ?_
  all_goals try simp [ints,bxO,zAg,rows,ints,zNT]
  rw [zEn (by simp [mpOf])]
  trivial
 ·rw [if_neg hp,List.append_nil] at htk
  have hp : P (x : Int) = false:=by simpa using hp
  rw [hp]
  refine cY0 ?_
  show awp _ _ _ _
  refine rr0 ?_
  refine ⟨k + 1,by omega,by omega,?_⟩
  rw [htk]
  refine zQ [(0,some 0),(1,some 1),(2,some 2),(3,some 3)] rfl ?_ ?_ ?_ ?_
  all_goals try simp [ints,bxO,zAg,rows,ints]
  rw [zEn (by simp [mpOf])]
  trivial
def idT (N : List Nat) : List T:=N.map fun x=>.int .i64 (x : Nat)
@[simp] theorem zTx (N : List Nat) : (idT N).length = N.length:=by simp [idT]
theorem zMj (n : Nat) : idT (List.replicate n 0) = List.replicate n (.int .i64 0):=by simp [idT]
def nxO (N : List Nat) : AObj:=.row 3 1 1 (idT N)
def huO (pa pb : List (Int × Int)) (R : List (List Int)) (m k : Nat) : AObj:=.box 149 [.ptr m 0 13,.t 1 (pgT pa),.t 1 (pgT pb),.t 1 (rows R),.own k R.length]
theorem zLo {T : Nat -> Nat -> Nat} {n : Nat} {set : List Int} (h : zCh T n set = true) : zH7 T n set:=by
 refine Classical.byContradiction fun hc=>?_
 rw [zHd hc] at h
 cases h
noncomputable def zCx (tb : List (List Int)) (set : List Int) (a b : Tm) : Int :=
 if zCb tb ≠ 0 then zCb tb
 else if zCh (zR tb) tb.length set = false then 1
 else if ¬ (a.val = true /\ b.val = true) then 21
 else if idI (zR tb) tb.length < 0 /\ (a.zB2 || b.zB2) = true then 9 else 0
theorem zMH {tb : List (List Int)} {set : List Int} {a b : Tm} (h : zCx tb set a b = 0) : zCb tb = 0 /\ zH7 (zR tb) tb.length set /\ (a.val = true /\ b.val = true) /\ ¬ (idI (zR tb) tb.length < 0 /\ (a.zB2 || b.zB2) = true):=by
 unfold zCx at h
 by_cases h1 : zCb tb ≠ 0
 ·rw [if_pos h1] at h; exact absurd h h1
 rw [if_neg h1] at h
 by_cases h2 : zCh (zR tb) tb.length set = false
 ·rw [if_pos h2] at h; cases h
 rw [if_neg h2] at h
 by_cases h3 : ¬ (a.val = true /\ b.val = true)
 ·rw [if_pos h3] at h; cases h
 rw [if_neg h3] at h
 by_cases h4 : idI (zR tb) tb.length < 0 /\ (a.zB2 || b.zB2) = true
 ·rw [if_pos h4] at h; cases h
 exact ⟨by omega,zLo (by simpa using h2),Decidable.not_not.1 h3,h4⟩
theorem zPX (h : 149 < Tryz.prog.types.size) : (Tryz.prog.types[149]'h).size = 5:=by rfl
theorem zQd {po : List Nat} {T : Nat -> Nat -> Nat} {n : Nat} {u : Nat -> Bool} {j : Nat} : outV po 1 (pwA T n u j) = pwA T n u j:=by
 unfold pwA
 by_cases h : u j = true
 ·rw [if_pos h]; simp [scal]
 ·rw [if_neg h]; simp [scal]
theorem zGi (po : List Nat) (q : Nat) : ∀ l : List AV,outVs po q l = l.map (outV po q)
 | []=>rfl
 | a :: l=>by
  show outV po q a :: outVs po q l = _
  rw [zGi po q l]
  rfl
theorem zT {po : List Nat} {tb : List (List Int)} {T : Nat -> Nat -> Nat} {n : Nat} {one : Int} {u : Nat -> Bool} : outVs po 1 (mcC tb T n one u) = mcC tb T n one u:=by
 rw [zGi]
 unfold mcC
 rw [List.map_cons,List.map_cons,ze]
 congr 1
 congr 1
 exact zO (fun j _=>zQd)
theorem zJV {H : Nat -> Option AObj} {pi : List Nat} {q : Nat} : ∀ {aS' bs : List AV},aS'.length = bs.length -> (∀ (i : Nat) a b,aS'[i]? = some a -> bs[i]? = some b -> inP H pi q a b) -> inPs H pi q aS' bs
 | [],[],_,_=>trivial
 | a :: aS',b :: bs,h,hr=>⟨hr 0 a b rfl rfl,zJV (by simpa using h) (fun i x y hx hy=>hr (i + 1) x y (by simpa using hx) (by simpa using hy))⟩
theorem zq {H : Nat -> Option AObj} {pi : List Nat} {tb : List (List Int)} {T : Nat -> Nat -> Nat} {n : Nat} {one : Int} {u : Nat -> Bool} : inPs H pi 1 (mcC tb T n one u) (mcC tb T n one u) = True:=by
 refine eq_true (zJV rfl (fun i a b ha hb=>?_))
 rw [ha] at hb
 injection hb with hb
 subst hb
 rcases zIZ ha with ⟨-,rfl⟩ | ⟨-,rfl⟩ | ⟨j,-,-,rfl⟩
 ·exact ⟨rfl,.inr (.inr ⟨rfl,Nat.le_refl _⟩)⟩
 ·exact ⟨rfl,.inl rfl⟩
 ·exact ⟨rfl,.inr (.inr ⟨rfl,Nat.le_refl _⟩)⟩
theorem zUD : List.range 2 = [0,1]:=rfl
def ibO (a b : Tm) : AObj:=.box 71 [.t 2 (.int .i64 a.op),.t 2 (.int .i64 a.n),.t 0 (.sl 3 (cellsL a.args)),.t 2 (.int .i64 b.op),.t 2 (.int .i64 b.n),.t 0 (.sl 3 (cellsL b.args))]
theorem zIr (T : Nat -> Nat -> Nat) (set : List Int) (a b : Tm) : (zDa T set a b).length = max a.gr b.gr:=by simp [zDa]
theorem zJ4 (tb : List (List Int)) (set : List Int) (a b : Tm) (v1 : zCb tb ≠ 0) : FnA Tryz.prog 41 [.t 1 (rows tb),.t 0 (ints set),idV 0 a b] (.tup [.t 2 .zGB,.t 2 (.int .i64 (zCb tb))]):=by
 have hV:=zBn tb
 refine fI 72 #[.tmp 6,.tmp 7] Tryz.func41 rfl ?_
 refine rg1 @idV.eq_1 ?_
 refine zA ?_
 refine rc0 hV ?_
 refine rg1 @v1 ?_
 refine cT1 @v1 ?_
 refine rg0 ?_
 exact zC (rt1 @idV.eq_1)
theorem zKH (tb : List (List Int)) (set : List Int) (a b : Tm) (hs : set.length <= 100000) (v1 : zCb tb = 0) (hcl : zCh (zR tb) tb.length set = false) : FnA Tryz.prog 41 [.t 1 (rows tb),.t 0 (ints set),idV 0 a b] (.tup [.t 2 .zGB,.t 2 (.int .i64 1)]):=by
 have hV:=zBn tb
 have hI:=zBK a b
 obtain ⟨hl0,hl4⟩:=zCI v1
 have hC:=zCy tb tb.length (zR tb) (TbL.of v1) (by omega) set hs
 have hId:=zDf tb v1
 refine fI 72 #[.tmp 6,.tmp 7] Tryz.func41 rfl ?_
 refine rg1 @idV.eq_1 ?_
 refine zA ?_
 refine rc0 hV ?_
 refine rg1 @v1 ?_
 refine cS1 @v1 ?_
 refine zA ?_
 refine rc1 hC @hcl ?_
 refine cT0 ?_
 refine rg0 ?_
 exact zC (rt1 @idV.eq_1)
theorem zJ3 (tb : List (List Int)) (set : List Int) (a b : Tm) (hs : set.length <= 100000) (v1 : zCb tb = 0) (hcl : zCh (zR tb) tb.length set = true) (e3 : ¬ (a.val = true /\ b.val = true)) : FnA Tryz.prog 41 [.t 1 (rows tb),.t 0 (ints set),idV 0 a b] (.tup [.t 2 .zGB,.t 2 (.int .i64 21)]):=by
 have hV:=zBn tb
 have hI:=zBK a b
 obtain ⟨hl0,hl4⟩:=zCI v1
 have hC:=zCy tb tb.length (zR tb) (TbL.of v1) (by omega) set hs
 have hId:=zDf tb v1
 have h21:=zTQ e3
 rw [h21] at hI
 refine fI 72 #[.tmp 6,.tmp 7] Tryz.func41 rfl ?_
 refine rg1 @idV.eq_1 ?_
 refine zA ?_
 refine rc0 hV ?_
 refine rg1 @v1 ?_
 refine cS1 @v1 ?_
 refine zA ?_
 refine rc1 hC @hcl ?_
 refine cS0 ?_
 refine zA ?_
 refine rc1 hI @idV.eq_1 ?_
 refine cT0 ?_
 refine rg0 ?_
 exact zC (rt1 @idV.eq_1)
theorem zKE (tb : List (List Int)) (set : List Int) (a b : Tm) (hs : set.length <= 100000) (v1 : zCb tb = 0) (hcl : zCh (zR tb) tb.length set = true) (e3 : a.val = true /\ b.val = true) (e4 : idI (zR tb) tb.length < 0) (e5 : (a.zB2 || b.zB2) = true) : FnA Tryz.prog 41 [.t 1 (rows tb),.t 0 (ints set),idV 0 a b] (.tup [.t 2 .zGB,.t 2 (.int .i64 9)]):=by
 have hV:=zBn tb
 have hI:=zBK a b
 obtain ⟨hl0,hl4⟩:=zCI v1
 have hC:=zCy tb tb.length (zR tb) (TbL.of v1) (by omega) set hs
 have hId:=zDf tb v1
 have h0:=zR4 e3
 rw [h0] at hI
 have hH:=zGQ [a,b] (by simp) (zIU e3)
 have hhe : zAj [a,b] = (a.zB2 || b.zB2):=by rw [zAj,zAj,zAj,Bool.or_false]
 rw [hhe,e5] at hH
 refine fI 72 #[.tmp 6,.tmp 7] Tryz.func41 rfl ?_
 refine rg1 @idV.eq_1 ?_
 refine zA ?_
 refine rc0 hV ?_
 refine rg1 @v1 ?_
 refine cS1 @v1 ?_
 refine zA ?_
 refine rc1 hC @hcl ?_
 refine cS0 ?_
 refine zA ?_
 refine rc1 hI @idV.eq_1 ?_
 refine cS0 ?_
 refine rc0 hId ?_
 refine zX (σ':=mkS [(0,.t 1 (rows tb)),(1,.t 0 (ints set)),(5,.ptr 0 0 6),(9,.t 2 (.int .i64 (idI (zR tb) tb.length)))] [(0,ibO a b)] 1 72 [.any,.any,.any]) ?_ ?_
 ·exact kw1 [(0,some 0)] (an @ibO.eq_1 @rows.eq_1)
 refine zA ?_
 refine rc1 hH (an @ibO.eq_1 (an @e4 (an @zd (an @zHZ @zMD)))) ?_
 refine cT0 ?_
 refine rg0 ?_
 exact zC (rt1 @idV.eq_1)
theorem zKB (tb : List (List Int)) (set : List Int) (a b : Tm) (hs : set.length <= 100000) (v1 : zCb tb = 0) (hc : zH7 (zR tb) tb.length set) (e3 : a.val = true /\ b.val = true) (e6 : ¬ (idI (zR tb) tb.length < 0 /\ (a.zB2 || b.zB2) = true)) :
  FnS Tryz.prog 41 [.t 1 (rows tb),.t 0 (ints set),idV 0 a b] [] (.tup [.ptr 0 0 5,.t 2 (.int .i64 0)])
   [huO a.cmp b.cmp (zDa (zR tb) set a b) 1 2,mcO tb (zR tb) tb.length (idI (zR tb) tb.length) (zHT [a.cmp,b.cmp] zU),nxO (List.replicate (zDa (zR tb) set a b).length 0)]:=by
 have hcl:=zId hc
 have hV:=zBn tb
 have hI:=zBK a b
 obtain ⟨hl0,hl4⟩:=zCI v1
 have hC:=zCy tb tb.length (zR tb) (TbL.of v1) (by omega) set hs
 have hId:=zDf tb v1
 have h0:=zR4 e3
 rw [h0] at hI
 have hH:=zGQ [a,b] (by simp) (zIU e3)
 have hhe : zAj [a,b] = (a.zB2 || b.zB2):=by rw [zAj,zAj,zAj,Bool.or_false]
 have ht:=TbL.of v1
 obtain ⟨hao,has⟩:=zB6 e3.1
 obtain ⟨hbo,hbs⟩:=zB6 e3.2
 have hga:=zRd a hao
 have hgb:=zRd b hbo
 have hca:=zDH a
 have hcb:=zDH b
 have hR:=zM0 tb tb.length (zR tb) ht (by omega) set hs hc.rng a b e3
 have hRl:=zIr (zR tb) set a b
 have hA:=zE8 a hao (by omega)
 have hB:=zE8 b hbo (by omega)
 have hM:=zFq tb tb.length (zR tb) ht (zFp v1) hl0 (by omega) (idI (zR tb) tb.length) [a.cmp,b.cmp] (by simp) (fun p hp=>by
  simp at hp
  rcases hp with rfl | rfl
  ·exact ⟨by omega,zFc a hao⟩
  ·exact ⟨by omega,zFc b hbo⟩)
 generalize zHT [a.cmp,b.cmp] zU = U at hM ⊢
 generalize zDa (zR tb) set a b = R at hR hRl ⊢
 generalize a.cmp = pa at hA hM hca ⊢
 generalize b.cmp = pb at hB hM hcb ⊢
 refine fI 72 #[.tmp 6,.tmp 7] Tryz.func41 rfl ?_
 refine rg1 @idV.eq_1 ?_
 refine zA ?_
 refine rc0 hV ?_
 refine rg1 @v1 ?_
 refine cS1 @v1 ?_
 refine zA ?_
 refine rc1 hC @hcl ?_
 refine cS0 ?_
 refine zA ?_
 refine rc1 hI @idV.eq_1 ?_
 refine cS0 ?_
 refine rc0 hId ?_
 refine zX (σ':=mkS [(0,.t 1 (rows tb)),(1,.t 0 (ints set)),(5,.ptr 0 0 6),(9,.t 2 (.int .i64 (idI (zR tb) tb.length)))] [(0,ibO a b)] 1 72 [.any,.any,.any]) ?_ ?_
 ·exact kw1 [(0,some 0)] (an @ibO.eq_1 @rows.eq_1)
 generalize idI (zR tb) tb.length = one at e6 hM ⊢
 refine zA (zBp (Q:=fun e σ=>e = Exit.normal /\ Wk σ (mkS [(0,.t 1 (rows tb)),(1,.t 0 (ints set)),(5,.ptr 0 0 6),(9,.t 2 (.int .i64 one))] [(0,ibO a b)] 1 72 [.any,.any,.any])) ?_ ?_)
 ·by_cases e4 : one < 0
  ·have e5 : (a.zB2 || b.zB2) = false:=by
    cases h : (a.zB2 || b.zB2)
    ·rfl
    ·exact absurd ⟨e4,h⟩ e6
   rw [hhe,e5] at hH
   refine rc1 hH (an @ibO.eq_1 (an @e4 (an @zd (an @zHZ @zMD)))) ?_
   refine cF0 ?_
   refine zb ?_
   refine ⟨rfl,?_⟩
   exact kw1 [(0,some 0)] (an @ibO.eq_1 @rows.eq_1)
  ·refine rg1 (an @ibO.eq_1 @e4) ?_
   refine cF1 @e4 ?_
   refine zb ?_
   refine ⟨rfl,?_⟩
   exact kw1 [(0,some 0)] (an @ibO.eq_1 @rows.eq_1)
 rintro e σ ⟨rfl,hw⟩
 refine zX hw ?_
 clear hw
 show awp _ _ _ _
 refine zp (by kernel_rfl) (fun K hK=>?_)
 simp (maxSteps:=2000000) (disch:=omega) [ints,rows,scal,zK,wr8,ibO,zd]
 (repeat' apply And.intro)
 all_goals (try omega)
 refine zS (caps:=[]) (hA) [] [] 2 rfl rfl rfl rfl (by kernel_rfl) (by simp) ?_ trivial trivial rfl trivial trivial (by simp) ?_
 ·simp [scal,rows,ints,tmV,ibO]
 simp (maxSteps:=2000000) (disch:=omega) [ints,rows,scal,zK,wr8,ibO,zd]
 (repeat' apply And.intro)
 all_goals (try omega)
 refine zS (caps:=[]) (hB) [] [] 2 rfl rfl rfl rfl (by kernel_rfl) (by simp) ?_ trivial trivial rfl trivial trivial (by simp) ?_
 ·simp [scal,rows,ints,tmV,ibO]
 simp (maxSteps:=2000000) (disch:=omega) [ints,rows,scal,zK,wr8,ibO,zd]
 (repeat' apply And.intro)
 all_goals (try omega)
 refine zS (caps:=[]) (hR) [] [] 2 rfl rfl rfl rfl (by kernel_rfl) (by simp) ?_ trivial trivial rfl trivial trivial (by simp) ?_
 ·simp [scal,rows,ints,idV,ibO]
 simp (maxSteps:=2000000) (disch:=omega) [ints,rows,scal,zK,wr8,zPX]
 and_intros <;> try first | apply hK | (show zA8 _ _ = true; kernel_rfl) | (show okH _ _ _ = true; kernel_rfl) | omega | rfl | simp <;> omega
 refine zX (σ':=mkS [(0,.t 1 (rows tb)),(9,.t 2 (.int .i64 one)),(10,.ptr 0 0 5)] [(0,.box 149 [.t 2 .zGB,.t 2 (pgT pa),.t 2 (pgT pb),.t 2 (rows R),.t 2 (.sl 0 [])])] 1 72 [.any,.any,.any]) ?_ ?_
 ·exact kw1 [(0,some 11000001)] (an @ibO.eq_1 (an @rows.eq_1 (an @pgT.eq_1 @zPX)))
 refine zp (by kernel_rfl) (fun K hK=>?_)
 simp (maxSteps:=2000000) (disch:=omega) [ints,rows,scal,zK,wr8,pgT,zUD]
 (repeat' apply And.intro)
 all_goals (try omega)
 refine zS (caps:=[]) (hM) [] [12000001] 1 rfl rfl rfl rfl (by kernel_rfl) (by simp) ?_ ?_ (by simp) rfl (by simp) ⟨.inl ⟨by omega,by omega⟩,trivial⟩ (by simp [mcO,pgT]) ?_
 ·simp [scal,rows,ints,mcO,pgT]
 ·trivial
 simp (maxSteps:=2000000) (disch:=omega) [ints,rows,scal,zK,wr8,mcO]
 and_intros <;> try first | apply hK | (show zA8 _ _ = true; kernel_rfl) | (show okH _ _ _ = true; kernel_rfl) | omega | rfl | simp <;> omega
 refine zX (σ':=mkS [(10,.ptr 0 0 5)] [(0,.box 149 [.ptr 1 0 13,.t 2 (pgT pa),.t 2 (pgT pb),.t 2 (rows R),.t 2 (.sl 0 [])]),(1,mcO tb (zR tb) tb.length one U)] 2 72 [.any,.any,.any]) ?_ ?_
 ·exact kw1 [(0,some 0),(1,some 12000001)] (an @mcO.eq_1 (an @zm (an @zT (an @rows.eq_1 @pgT.eq_1))))
 refine rg0 ?_
 refine rg0 ?_
 refine zC ?_
 refine ⟨⟨.inr rfl,_,[(0,some 0),(1,some 1),(2,some 6000002)],(by first | rfl | (simp [ints,rows,scal,huO,mcO,zm,nxO,zMj,idV,pgT]; rfl)),?_,?_,?_,?_⟩,?_⟩
 all_goals try simp [ints,rows,scal,huO,mcO,zm,nxO,zMj,idV,pgT]
def zFW (R : List (List Int)) (N : List Nat) (i : Nat) : Int:=(R.getD i []).getD (N.getD i 0) 0
def asg (R : List (List Int)) (N : List Nat) : List Int:=tab R.length (zFW R N)
@[simp] theorem zL0 (R : List (List Int)) (N : List Nat) : (asg R N).length = R.length:=by simp [asg]
structure NOk (R : List (List Int)) (N : List Nat) : Prop where
 len : N.length = R.length
 lt : ∀ i (h : i < R.length),N.getD i 0 < (R.getD i []).length
theorem NOk.at {R : List (List Int)} {N : List Nat} (h : NOk R N) {i : Nat} (hi : i < R.length) : ∃ (h1 : i < N.length) (h2 : N[i] < R[i].length),R[i][N[i]] = zFW R N i:=by
 have h1 : i < N.length:=by rw [h.len]; exact hi
 have h3:=h.lt i hi
 have e1 : N.getD i 0 = N[i]:=by simp [h1]
 have e2 : R.getD i [] = R[i]:=by simp [hi]
 rw [e1,e2] at h3
 refine ⟨h1,h3,?_⟩
 unfold zFW
 rw [e1,e2]
 simp [h3]
theorem NOk.set {R : List (List Int)} {N : List Nat} (h : NOk R N) {i v : Nat} (hv : ∀ hi : i < R.length,v < (R.getD i []).length) : NOk R (N.set i v):=by
 refine ⟨by simpa using h.len,fun j hj=>?_⟩
 by_cases e : j = i
 ·subst e
  have : (N.set j v).getD j 0 = v:=by
   have hl : j < N.length:=by rw [h.len]; exact hj
   simp [hl]
  rw [this]
  exact hv hj
 ·have : (N.set i v).getD j 0 = N.getD j 0:=by
   have : i ≠ j:=fun e2=>e e2.symm
   simp [List.getD_eq_getElem?_getD,List.getElem?_set_ne this]
  rw [this]
  exact h.lt j hj
def advG (R : List (List Int)) : List Nat -> Nat -> List Nat × Bool
 | N,0=>(N,false)
 | N,i + 1=>if N.getD i 0 + 1 < (R.getD i []).length then (N.set i (N.getD i 0 + 1),true) else advG R (N.set i 0) i
def zHS (R : List (List Int)) (N : List Nat) : List Nat × Bool:=advG R N R.length
theorem zK7 {R : List (List Int)} : ∀ (i : Nat) {N : List Nat},NOk R N -> i <= R.length -> NOk R (advG R N i).1
 | 0,N,h,_=>h
 | i + 1,N,h,hi=>by
  rw [advG]
  split
  ·rename_i h2
   exact h.set fun _=>h2
  ·exact zK7 i (h.set fun hi2=>by have:=h.lt i hi2; omega) (by omega)
theorem zDz {R : List (List Int)} {N : List Nat} (h : NOk R N) : NOk R (zHS R N).1:=zK7 _ h (Nat.le_refl _)
def runH (v1 v2 : List Nat -> Nat) (R : List (List Int)) : Nat -> Nat -> List Nat -> Nat × Bool × Bool × List Nat
 | 0,s,N=>(s,false,false,N)
 | f + 1,s,N=>if v1 N ≠ v2 N then (s + 1,true,true,N) else if (zHS R N).2 = true then runH v1 v2 R f (s + 1) (zHS R N).1 else (s + 1,false,true,(zHS R N).1)
theorem zIX {v1 v2 : List Nat -> Nat} {R : List (List Int)} : ∀ (f s : Nat) {N : List Nat},NOk R N -> NOk R (runH v1 v2 R f s N).2.2.2 /\ s <= (runH v1 v2 R f s N).1 /\ (runH v1 v2 R f s N).1 <= s + f
 | 0,s,N,h=>⟨h,Nat.le_refl _,Nat.le_refl _⟩
 | f + 1,s,N,h=>by
  rw [runH]
  split
  ·exact ⟨h,by simp only; omega,by simp only; omega⟩
  ·split
   ·have:=zIX (v1:=v1) (v2:=v2) f (s + 1) (zDz h)
    exact ⟨this.1,by omega,by omega⟩
   ·exact ⟨zDz h,by simp only; omega,by simp only; omega⟩
theorem zKt (N : List Nat) (i v : Nat) : (idT N).set i (.int .i64 (v : Nat)) = idT (N.set i v):=by
 unfold idT
 rw [List.map_set]
def vaO (R : List (List Int)) (W : Nat -> Int) : AObj:=.row 3 1 2 (tab R.length fun i=>.int .i64 (W i))
theorem zEw (pa pb : List (Int × Int)) (R : List (List Int)) (hRl : R.length <= 1000) (tb : List (List Int)) (T : Nat -> Nat -> Nat) (n : Nat) (one : Int) (u : Nat -> Bool) (N : List Nat) (hN : NOk R N) :
  FnS Tryz.prog 44 [.ptr 0 0 5] [huO pa pb R 1 2,mcO tb T n one u,nxO N] (.own 3 R.length) [huO pa pb R 1 2,mcO tb T n one u,nxO N,vaO R (zFW R N)]:=by
 have hNl:=hN.len
 refine fI 37 #[.tmp 2] Tryz.func44 rfl ?_
 refine rg0 ?_
 refine rg1 (an @huO.eq_1 (an @nxO.eq_1 @hNl)) ?_
 refine zA ?_
 refine rg1 (an @huO.eq_1 (an @nxO.eq_1 @hNl)) ?_
 refine zB ?_
 refine awp_loop (fun k : Nat=>mkS [(0,.ptr 0 0 5),(3,.own 3 R.length),(15,.own 2 R.length),(16,.t 2 (.int .i64 R.length)),(17,.t 2 (.int .i64 k))] [(0,huO pa pb R 1 2),(1,mcO tb T n one u),(2,nxO N),(3,vaO R fun i=>if i < k then zFW R N i else 0)] 4 37 [.ptr 0 0 5]) (fun k=>k <= R.length) (fun k=>R.length - k) ?_ ?_
 ·refine ⟨0,by omega,?_⟩
  exact kw1 [(0,some 0),(1,some 1),(2,some 2),(3,some 6000003)] (an @huO.eq_1 (an @mcO.eq_1 (an @zm (an @nxO.eq_1 (an @vaO.eq_1 (an @zAF (an @rows.eq_1 @pgT.eq_1)))))))
 intro k hk
 refine rg0 ?_
 refine zA ?_
 by_cases hkl : k < R.length
 ·obtain ⟨h1,h2,h3⟩:=hN.at hkl
  refine cK1 @hkl ?_
  refine zA ?_
  refine zB ?_
  refine rg1 (an @nxO.eq_1 (an @idT.eq_1 (an @hNl (an @hkl @h1)))) ?_
  refine rr1 (an @huO.eq_1 (an @vaO.eq_1 (an @hkl (an @h2 @h3)))) ?_
  show awp _ _ _ _
  refine rr0 ?_
  refine ⟨k + 1,by omega,by omega,?_⟩
  refine zQ [(0,some 0),(1,some 1),(2,some 2),(3,some 3)] rfl ?_ ?_ ?_ ?_
  all_goals try simp [ints,huO,mcO,zm,nxO,vaO,rows,idT,pgT]
  rw [zg]
  refine zO (fun i hi=>?_)
  by_cases e : i = k
  ·subst e; simp
  ·rw [if_neg e]
   by_cases e2 : i < k
   ·rw [if_pos e2,if_pos (by omega)]
   ·rw [if_neg e2,if_neg (by omega)]
 ·obtain rfl : k = R.length:=by omega
  refine cF0 ?_
  refine zG ?_
  show awp _ _ _ _
  refine rg0 ?_
  refine zC ?_
  refine ⟨⟨.inr rfl,_,[(0,some 0),(1,some 1),(2,some 2),(3,some 3)],(by first | rfl | (simp [ints,rows,scal,huO,mcO,zm,nxO,vaO,idT,pgT]; rfl)),?_,?_,?_,?_⟩,?_⟩
  all_goals try simp [ints,rows,scal,huO,mcO,zm,nxO,vaO,idT,pgT]
  exact zO (fun i hi=>by rw [if_pos hi])
theorem zHb (pa pb : List (Int × Int)) (R : List (List Int)) (hRl : R.length <= 1000) (hRL : ∀ l ∈ R,l.length <= 100000) (tb : List (List Int)) (T : Nat -> Nat -> Nat) (n : Nat) (one : Int) (u : Nat -> Bool) (N : List Nat) (hN : NOk R N) :
  FnS Tryz.prog 74 [.ptr 0 0 5] [huO pa pb R 1 2,mcO tb T n one u,nxO N] (.t 2 (.bool (zHS R N).2)) [huO pa pb R 1 2,mcO tb T n one u,nxO (zHS R N).1]:=by
 refine fI 45 #[.tmp 2] Tryz.func74 rfl ?_
 have hNl:=hN.len
 refine rg0 ?_
 refine zA ?_
 refine rg1 (an @huO.eq_1 (an @nxO.eq_1 @hNl)) ?_
 refine zB ?_
 refine awp_loop (fun y : Nat × List Nat=>mkS [(0,.ptr 0 0 5),(3,.t 2 (.int .i64 ((y.1 : Nat) - 1 : Int)))] [(0,huO pa pb R 1 2),(1,mcO tb T n one u),(2,nxO y.2)] 3 45 [.ptr 0 0 5]) (fun y=>y.1 <= R.length /\ NOk R y.2 /\ zHS R N = advG R y.2 y.1) (fun y=>y.1) ?_ ?_
 ·refine ⟨(R.length,N),⟨Nat.le_refl _,hN,rfl⟩,?_⟩
  exact kw1 [(0,some 0),(1,some 1),(2,some 2)] (an @huO.eq_1 (an @mcO.eq_1 (an @zm (an @nxO.eq_1 (an @rows.eq_1 @pgT.eq_1)))))
 rintro ⟨i,M⟩ ⟨hi,hM,hex⟩
 simp only at hi hM hex
 rw [hex]
 have hMl:=hM.len
 refine zA ?_
 rcases i with _ | i
 ·refine rg0 ?_
  refine cF0 ?_
  refine zG ?_
  show awp _ _ _ _
  refine rg0 ?_
  refine zC ?_
  refine ⟨⟨.inr rfl,_,[(0,some 0),(1,some 1),(2,some 2)],(by first | rfl | (simp [ints,rows,scal,huO,mcO,zm,nxO,pgT,advG]; rfl)),?_,?_,?_,?_⟩,?_⟩
  all_goals try simp [ints,rows,scal,huO,mcO,zm,nxO,pgT,advG]
 ·have hil : i < R.length:=by omega
  obtain ⟨h1,h2,h3⟩:=hM.at hil
  have e1 : M.getD i 0 = M[i]:=by simp [h1]
  have e2 : R.getD i [] = R[i]:=by simp [hil]
  have hRi:=hRL R[i] (List.getElem_mem hil)
  rw [advG,e1,e2]
  have hset : (idT M).set i (.int .i64 ((M[i] : Nat) + 1 : Int)) = idT (M.set i (M[i] + 1)):=zKt M i (M[i] + 1)
  have hset2 : (idT (M.set i (M[i] + 1))).set i (.int .i64 0) = idT (M.set i 0):=by rw [← Int.natCast_zero,zKt,List.set_set]
  have hget : (M.set i (M[i] + 1))[i]? = some (M[i] + 1):=by simp [h1]
  have hget2 : (idT M)[i]? = some (.int .i64 (M[i] : Nat)):=by unfold idT; rw [List.getElem?_map,List.getElem?_eq_getElem h1]; rfl
  have hget3 : (idT (M.set i (M[i] + 1)))[i]? = some (.int .i64 ((M[i] : Nat) + 1 : Int)):=by unfold idT; rw [List.getElem?_map,hget]; rfl
  generalize hm : M[i] = mi at h2 h3 hset hset2 hget hget2 hget3 ⊢
  refine rg0 ?_
  refine cK0 ?_
  refine zA ?_
  refine zB ?_
  refine rg1 (an @huO.eq_1 (an @nxO.eq_1 (an @hMl (an @hil (an @hget2 @hset))))) ?_
  refine zA ?_
  by_cases e : mi + 1 < R[i].length
  ·have e' : (mi : Int) + 1 < (R[i].length : Int):=by omega
   rw [if_pos e]
   refine rd1 (an @huO.eq_1 (an @nxO.eq_1 (an @hMl (an @hil (an @hget3 @hset))))) ?_
   refine cT1 @e' ?_
   refine rg0 ?_
   refine zC ?_
   exact zPt (an @huO.eq_1 (an @mcO.eq_1 (an @zm (an @nxO.eq_1 (an @pgT.eq_1 @hset)))))
  ·have e' : ¬ (mi : Int) + 1 < (R[i].length : Int):=by omega
   rw [if_neg e]
   refine rd1 (an @huO.eq_1 (an @nxO.eq_1 (an @hMl (an @hil (an @hget3 @hset))))) ?_
   refine cS1 @e' ?_
   refine rr1 (an @huO.eq_1 (an @nxO.eq_1 (an @hMl (an @hil (an @hset @hset2))))) ?_
   show awp _ _ _ _
   refine rr0 ?_
   refine ⟨(i,M.set i 0),⟨by simp only; omega,hM.set (fun hi2=>by rw [e2]; omega),rfl⟩,by simp only; omega,?_⟩
   exact kw1 [(0,some 0),(1,some 1),(2,some 2)] (an @huO.eq_1 (an @mcO.eq_1 (an @zm (an @nxO.eq_1 (an @pgT.eq_1 (an @rows.eq_1 (an @hset @hset2)))))))
structure zUX (R : List (List Int)) (T : Nat -> Nat -> Nat) (n : Nat) (one : Int) (u : Nat -> Bool) (pa pb : List (Int × Int)) (v1 v2 : List Nat -> Nat) : Prop where
 la : pa.length <= 100000
 lb : pb.length <= 100000
 a : ∀ N,NOk R N -> Exn T n one u (asg R N) [] pa (v1 N)
 b : ∀ N,NOk R N -> Exn T n one u (asg R N) [] pb (v2 N)
theorem zN5 (R : List (List Int)) (N : List Nat) : ints (asg R N) = .sl 1 (tab R.length fun i=>.int .i64 (zFW R N i)):=by
 unfold ints asg
 rw [ze]
theorem zP7 (pa pb : List (Int × Int)) (R : List (List Int)) (hRl : R.length <= 1000) (hRL : ∀ l ∈ R,l.length <= 100000) (tb : List (List Int)) (T : Nat -> Nat -> Nat) (n : Nat) (ht : TbL tb n T) (hA : zBA n T) (hn : n <= 1000) (one : Int) (u : Nat -> Bool) (v1 v2 : List Nat -> Nat) (hE : zUX R T n one u pa pb v1 v2) (limit : Nat) (hlim : limit <= 10000000) (N : List Nat) (hN : NOk R N) :
  FnS Tryz.prog 43 [.ptr 0 0 5,.t 2 (.int .i64 (limit : Nat))] [huO pa pb R 1 2,mcO tb T n one u,nxO N]
   (.tup [.t 2 (.int .i64 ((runH v1 v2 R limit 0 N).1 : Nat)),.t 2 (.bool (runH v1 v2 R limit 0 N).2.1),.t 2 (.bool (runH v1 v2 R limit 0 N).2.2.1)])
   [huO pa pb R 1 2,mcO tb T n one u,nxO (runH v1 v2 R limit 0 N).2.2.2]:=by
 have hVal:=zEw pa pb R hRl tb T n one u N hN
 have hNl:=hN.len
 refine fI 68 #[.tmp 4,.tmp 5,.tmp 6] Tryz.func43 rfl ?_
 refine rg0 ?_
 refine zI fun K hK=>?_
 simp (maxSteps:=2000000) (disch:=omega) [ints,rows,scal,zK,wr8]
 (repeat' apply And.intro)
 all_goals (try omega)
 refine zD (caps:=[]) (hVal) [0,1,2] [0,4000003,4000004,4000005] 1 rfl rfl rfl rfl (by kernel_rfl) (by simp) ?_ ?_ (by simp) rfl (by simp) ⟨.inr ⟨rfl,0,_,_,_,_,_,rfl,rfl,(by first | rfl | simp [huO,mcO,zq,zT,nxO,pgT,rows,vaO]),rfl,(by first | rfl | simp [huO,mcO,zq,zT,nxO,pgT,rows,vaO])⟩,.inl ⟨by omega,by omega⟩,.inl ⟨by omega,by omega⟩,.inl ⟨by omega,by omega⟩,trivial⟩ (by simp [huO,mcO,zq,zT,nxO,pgT,rows,vaO]) ?_
 ·simp [scal,rows,ints,huO,mcO,zq,zT,nxO,pgT,rows,vaO]
 ·simp [scal,rows,ints,huO,mcO,zq,zT,nxO,pgT,rows,vaO]
 simp (maxSteps:=2000000) (disch:=omega) [ints,rows,scal,zK,wr8,huO,mcO,zT,nxO,vaO]
 and_intros <;> try first | apply hK | omega | rfl | simp <;> omega
 refine zA ?_
 refine zB ?_
 refine awp_loop (fun y : Nat × List Nat × (Nat -> Int)=>mkS [(0,.ptr 0 0 5),(1,.t 2 (.int .i64 (limit : Nat))),(4,.t 2 (.int .i64 (y.1 : Nat))),(7,.own 3 R.length)] [(0,huO pa pb R 1 2),(1,mcO tb T n one u),(2,nxO y.2.1),(3,vaO R y.2.2)] 4 68 [.ptr 0 0 5,.any]) (fun y=>y.1 <= limit /\ NOk R y.2.1 /\ runH v1 v2 R limit 0 N = runH v1 v2 R (limit - y.1) y.1 y.2.1) (fun y=>limit - y.1) ?_ ?_
 ·refine ⟨(0,N,zFW R N),⟨by simp,hN,rfl⟩,?_⟩
  exact kw1 [(0,some 0),(1,some 4000003),(2,some 4000004),(3,some 4000005)] (an @huO.eq_1 (an @mcO.eq_1 (an @zm (an @nxO.eq_1 (an @vaO.eq_1 (an @rows.eq_1 @pgT.eq_1))))))
 rintro ⟨s,M,W⟩ ⟨hs,hM,hex⟩
 simp only at hs hM hex
 rw [hex]
 have hMl:=hM.len
 refine zA ?_
 by_cases hsl : s < limit
 case neg =>
  obtain rfl : s = limit:=by omega
  rw [Nat.sub_self,runH]
  refine rg0 ?_
  refine cF0 ?_
  refine zG ?_
  show awp _ _ _ _
  refine rg0 ?_
  refine zC ?_
  exact zPt (an @huO.eq_1 (an @mcO.eq_1 (an @zm (an @nxO.eq_1 @pgT.eq_1))))
 have hE1:=hE.a M hM
 have hE2:=hE.b M hM
 have hAd:=zHb pa pb R hRl hRL tb T n one u M hM
 have hr1:=zPM tb n T ht hA hn one u (asg R M) pa hE.la (v1 M) hE1
 have hr2:=zPM tb n T ht hA hn one u (asg R M) pb hE.lb (v2 M) hE2
 rw [zN5] at hr1 hr2
 rw [show limit - s = (limit - (s + 1)) + 1 by omega,runH]
 refine rg0 ?_
 refine cK1 @hsl ?_
 refine zB ?_
 refine rg0 ?_
 refine zA ?_
 refine rg1 (an @huO.eq_1 (an @nxO.eq_1 @hMl)) ?_
 refine zB ?_
 refine awp_loop (fun k : Nat=>mkS [(0,.ptr 0 0 5),(1,.t 2 (.int .i64 (limit : Nat))),(4,.t 2 (.int .i64 ((s + 1 : Nat) : Int))),(7,.own 3 R.length),(20,.own 2 R.length),(21,.t 2 (.int .i64 R.length)),(22,.t 2 (.int .i64 k))] [(0,huO pa pb R 1 2),(1,mcO tb T n one u),(2,nxO M),(3,vaO R fun i=>if i < k then zFW R M i else W i)] 4 68 [.ptr 0 0 5,.any]) (fun k=>k <= R.length) (fun k=>R.length - k) ?_ ?_
 ·refine ⟨0,by omega,?_⟩
  exact kw1 [(0,some 0),(1,some 1),(2,some 2),(3,some 3)] (an @huO.eq_1 (an @mcO.eq_1 (an @zm (an @nxO.eq_1 (an @vaO.eq_1 (an @rows.eq_1 @pgT.eq_1))))))
 intro k hk
 refine rg0 ?_
 refine zA ?_
 by_cases hkl : k < R.length
 ·obtain ⟨h1,h2,h3⟩:=hM.at hkl
  refine cK1 @hkl ?_
  refine zA ?_
  refine zB ?_
  refine rg1 (an @nxO.eq_1 (an @idT.eq_1 (an @hMl (an @hkl @h1)))) ?_
  refine rr1 (an @huO.eq_1 (an @vaO.eq_1 (an @hkl (an @h2 @h3)))) ?_
  show awp _ _ _ _
  refine rr0 ?_
  refine ⟨k + 1,by omega,by omega,?_⟩
  refine zQ [(0,some 0),(1,some 1),(2,some 2),(3,some 3)] rfl ?_ ?_ ?_ ?_
  all_goals try simp [ints,huO,mcO,zm,nxO,vaO,rows,idT,pgT]
  rw [zg]
  refine zO (fun i hi=>?_)
  by_cases e : i = k
  ·subst e; simp
  ·rw [if_neg e]
   by_cases e2 : i < k
   ·rw [if_pos e2,if_pos (by omega)]
   ·rw [if_neg e2,if_neg (by omega)]
 obtain rfl : k = R.length:=by omega
 have hva : vaO R (fun i=>if i < R.length then zFW R M i else W i) = vaO R (zFW R M):=by
  unfold vaO
  congr 1
  exact zO (fun i hi=>by simp only [if_pos hi])
 rw [hva]
 refine cF0 ?_
 refine zG ?_
 show awp _ _ _ _
 refine zA ?_
 refine zp (by kernel_rfl) (fun K hK=>?_)
 simp (maxSteps:=2000000) (disch:=omega) [ints,rows,scal,zK,wr8,huO]
 (repeat' apply And.intro)
 all_goals (try omega)
 refine zS (caps:=[]) (hr1) [1] [1] 1 rfl rfl rfl rfl (by kernel_rfl) (by simp) ?_ ?_ (by simp) rfl (by simp) ⟨.inr ⟨rfl,0,_,_,_,_,_,rfl,rfl,(by first | rfl | simp [huO,mcO,zq,zT,vaO,pgT,rows]),rfl,(by first | rfl | simp [huO,mcO,zq,zT,vaO,pgT,rows])⟩,trivial⟩ (by simp [huO,mcO,zq,zT,vaO,pgT,rows]) ?_
 ·simp [scal,rows,ints,huO,mcO,zq,zT,vaO,pgT,rows]
 ·simp [scal,rows,ints,huO,mcO,zq,zT,vaO,pgT,rows]
 simp (maxSteps:=2000000) (disch:=omega) [ints,rows,scal,zK,wr8,huO,zT]
 (repeat' apply And.intro)
 all_goals (try omega)
 refine zS (caps:=[]) (hr2) [1] [1] 1 rfl rfl rfl rfl (by kernel_rfl) (by simp) ?_ ?_ (by simp) rfl (by simp) ⟨.inr ⟨rfl,0,_,_,_,_,_,rfl,rfl,(by first | rfl | simp [huO,mcO,zq,zT,vaO,pgT,rows]),rfl,(by first | rfl | simp [huO,mcO,zq,zT,vaO,pgT,rows])⟩,trivial⟩ (by simp [huO,mcO,zq,zT,vaO,pgT,rows]) ?_
 ·simp [scal,rows,ints,huO,mcO,zq,zT,vaO,pgT,rows]
 ·simp [scal,rows,ints,huO,mcO,zq,zT,vaO,pgT,rows]
 simp (maxSteps:=2000000) (disch:=omega) [ints,rows,scal,zK,wr8,huO,zT]
 (repeat' first | apply hK | apply And.intro) <;> try first | (show zA8 _ _ = true; kernel_rfl) | (show okH _ _ _ = true; kernel_rfl) | omega | rfl | (simp <;> omega)
 by_cases e : v1 M = v2 M
 case neg =>
  rw [if_pos e]
  refine cT1 @e ?_
  refine rg0 ?_
  refine zC ?_
  exact zPt (an @huO.eq_1 (an @mcO.eq_1 (an @zm (an @zT (an @nxO.eq_1 @pgT.eq_1)))))
 have e' : ¬ (v1 M ≠ v2 M):=fun h=>h e
 rw [if_neg e']
 refine cS1 @e ?_
 refine zX (σ':=mkS [(0,.ptr 0 0 5),(1,.t 2 (.int .i64 (limit : Nat))),(4,.t 2 (.int .i64 ((s + 1 : Nat) : Int))),(7,.own 3 R.length)] [(0,huO pa pb R 1 2),(1,mcO tb T n one u),(2,nxO M),(3,vaO R (zFW R M))] 4 68 [.ptr 0 0 5,.any]) ?_ ?_
 ·exact kw1 [(0,some 0),(1,some 1),(2,some 2),(3,some 3)] (an @huO.eq_1 (an @mcO.eq_1 (an @zm (an @zT (an @nxO.eq_1 (an @vaO.eq_1 (an @rows.eq_1 @pgT.eq_1)))))))
 refine zI fun K hK=>?_
 simp (maxSteps:=2000000) (disch:=omega) [ints,rows,scal,zK,wr8]
 (repeat' apply And.intro)
 all_goals (try omega)
 refine zD (caps:=[]) (hAd) [0,1,2] [0,1000004,1000005] 1 rfl rfl rfl rfl (by kernel_rfl) (by simp) ?_ ?_ (by simp) rfl (by simp) ⟨.inr ⟨rfl,0,_,_,_,_,_,rfl,rfl,(by first | rfl | simp [huO,mcO,zq,zT,nxO,pgT,rows]),rfl,(by first | rfl | simp [huO,mcO,zq,zT,nxO,pgT,rows])⟩,.inl ⟨by omega,by omega⟩,.inl ⟨by omega,by omega⟩,trivial⟩ (by simp [huO,mcO,zq,zT,nxO,pgT,rows]) ?_
 ·simp [scal,rows,ints,huO,mcO,zq,zT,nxO,pgT,rows]
 ·simp [scal,rows,ints,huO,mcO,zq,zT,nxO,pgT,rows]
 simp (maxSteps:=2000000) (disch:=omega) [ints,rows,scal,zK,wr8,huO,mcO,zT,nxO]
 (repeat' first | apply hK | apply And.intro) <;> try first | omega | rfl | (simp <;> omega)
 cases hb : (zHS R M).2 with
 | true =>
  simp only [↓reduceIte]
  refine cF1 @hb ?_
  refine zb ?_
  refine ⟨(s + 1,(zHS R M).1,zFW R M),⟨by simp only; omega,zDz hM,rfl⟩,by simp only; omega,?_⟩
  exact kw1 [(0,some 0),(1,some 1000004),(2,some 1000005),(3,some 3)] (an @huO.eq_1 (an @mcO.eq_1 (an @zm (an @zT (an @nxO.eq_1 (an @vaO.eq_1 (an @rows.eq_1 @pgT.eq_1)))))))
 | false =>
  simp only [Bool.false_eq_true,↓reduceIte]
  refine cT1 @hb ?_
  refine rg0 ?_
  refine zC ?_
  refine ⟨⟨.inr rfl,_,[(0,some 0),(1,some 1000004),(2,some 1000005)],(by first | rfl | (simp [ints,rows,scal,huO,mcO,zm,zT,nxO,pgT,rows]; rfl)),?_,?_,?_,?_⟩,?_⟩
  all_goals try simp [ints,rows,scal,huO,mcO,zm,zT,nxO,pgT,rows]
theorem zMP {T : Nat -> Nat -> Nat} {n : Nat} : ∀ (f e : Nat),e + f = n -> idG T n f e = -1 \/ ∃ x : Nat,idG T n f e = (x : Int) /\ x < n /\ zHw T n x = true
 | 0,e,_=>.inl rfl
 | f + 1,e,h=>by
  rw [idG]
  by_cases hi : zHw T n e = true
  ·rw [if_pos hi]; exact .inr ⟨e,rfl,by omega,hi⟩
  ·rw [if_neg hi]; exact zMP f (e + 1) (by omega)
theorem zQb (T : Nat -> Nat -> Nat) (n : Nat) : idI T n = -1 \/ ∃ x : Nat,idI T n = (x : Int) /\ x < n /\ zHw T n x = true:=zMP n 0 (by omega)
def asV (T : Nat -> Nat -> Nat) (n : Nat) (R : List (List Int)) (t : Tm) (N : List Nat) : Nat:=t.ev T n (idI T n).toNat (fun i=>(zFW R N i).toNat)
def RIn (n : Nat) (R : List (List Int)) : Prop:=∀ l ∈ R,∀ x ∈ l,0 <= x /\ x < (n : Int)
theorem zO5 {R : List (List Int)} {N : List Nat} (h : NOk R N) {i : Nat} (hi : i < R.length) : ∃ l ∈ R,zFW R N i ∈ l:=by
 obtain ⟨h1,h2,h3⟩:=h.at hi
 exact ⟨R[i],List.getElem_mem hi,by rw [← h3]; exact List.getElem_mem h2⟩
theorem zPV {n : Nat} {R : List (List Int)} (hR : RIn n R) {N : List Nat} (h : NOk R N) : VIn n (asg R N) (fun i=>(zFW R N i).toNat):=⟨fun i hi=>by
 have hi : i < R.length:=by simpa using hi
 obtain ⟨l,hl,hm⟩:=zO5 h hi
 have:=hR l hl _ hm
 refine ⟨?_,by show (zFW R N i).toNat < n; omega⟩
 unfold asg
 rw [zP _ hi]
 congr 1
 omega⟩
theorem zRb {T : Nat -> Nat -> Nat} {n : Nat} (hT : ∀ r c,r < n -> c < n -> T r c < n) (hA : zBA n T) {R : List (List Int)} (hR : RIn n R) {a b : Tm} (ha : a.val = true) (hb : b.val = true) (hl : R.length = max a.gr b.gr) (h6 : ¬ (idI T n < 0 /\ (a.zB2 || b.zB2) = true)) :
  zUX R T n (idI T n) (zHT [a.cmp,b.cmp] zU) a.cmp b.cmp (asV T n R a) (asV T n R b):=by
 have h1 : ∀ t : Tm,(t = a \/ t = b) -> t.zB2 = true -> idI T n = ((idI T n).toNat : Int) /\ (idI T n).toNat < n:=fun t ht h=>by
  have h2 : (a.zB2 || b.zB2) = true:=by rcases ht with rfl | rfl <;> simp [h]
  have h3 : ¬ idI T n < 0:=fun h4=>h6 ⟨h4,h2⟩
  rcases zQb T n with h5 | ⟨x,h5,h7,-⟩
  ·omega
  ·omega
 have hca:=zDH a
 have hcb:=zDH b
 have hva:=(zB6 ha).2
 have hvb:=(zB6 hb).2
 refine ⟨by omega,by omega,fun N hN=>?_,fun N hN=>?_⟩
 ·exact (zLF hT hA (zPV hR hN) a ha (by rw [zL0]; omega) (h1 a (.inl rfl)) [a.cmp,b.cmp] (by simp)).2
 ·exact (zLF hT hA (zPV hR hN) b hb (by rw [zL0]; omega) (h1 b (.inr rfl)) [a.cmp,b.cmp] (by simp)).2
theorem zQn {T : Nat -> Nat -> Nat} {n : Nat} {set : List Int} (hr : ∀ i (h : i < set.length),0 <= set[i] /\ set[i] < (n : Int)) (a b : Tm) : RIn n (zDa T set a b):=fun l hl x hx=>by
 unfold zDa tab at hl
 obtain ⟨i,-,rfl⟩:=List.mem_map.1 hl
 unfold zKd at hx
 obtain ⟨k,hk,rfl⟩:=List.getElem_of_mem (List.mem_filter.1 hx).1
 exact hr k hk
theorem zRC {T : Nat -> Nat -> Nat} {set : List Int} (a b : Tm) : ∀ l ∈ zDa T set a b,l.length <= set.length:=fun l hl=>by
 unfold zDa tab at hl
 obtain ⟨i,-,rfl⟩:=List.mem_map.1 hl
 exact List.length_filter_le _ _
theorem zLO {R : List (List Int)} (h : zKJ R = false) : NOk R (List.replicate R.length 0):=by
 refine ⟨by simp,fun i hi=>?_⟩
 have h0 : (List.replicate R.length 0).getD i 0 = 0:=by simp [hi]
 rw [h0]
 have e2 : R.getD i [] = R[i]:=by simp [hi]
 rw [e2]
 refine Nat.pos_of_ne_zero fun he=>?_
 have : zKJ R = true:=by
  unfold zKJ
  rw [List.any_eq_true]
  exact ⟨R[i],List.getElem_mem hi,by simpa using he⟩
 rw [h] at this
 cases this
theorem zEP (tb : List (List Int)) (set : List Int) (a b : Tm) (hs : set.length <= 100000) :
  (zCx tb set a b ≠ 0 -> FnA Tryz.prog 41 [.t 1 (rows tb),.t 0 (ints set),idV 0 a b] (.tup [.t 2 .zGB,.t 2 (.int .i64 (zCx tb set a b))])) ∧
  (zCx tb set a b = 0 -> FnS Tryz.prog 41 [.t 1 (rows tb),.t 0 (ints set),idV 0 a b] [] (.tup [.ptr 0 0 5,.t 2 (.int .i64 0)])
   [huO a.cmp b.cmp (zDa (zR tb) set a b) 1 2,mcO tb (zR tb) tb.length (idI (zR tb) tb.length) (zHT [a.cmp,b.cmp] zU),nxO (List.replicate (zDa (zR tb) set a b).length 0)]):=by
 refine ⟨fun h=>?_,fun h=>?_⟩
 ·unfold zCx at h ⊢
  by_cases h1 : zCb tb ≠ 0
  ·rw [if_pos h1]; exact zJ4 tb set a b h1
  have v1 : zCb tb = 0:=Decidable.not_not.1 h1
  rw [if_neg h1] at h ⊢
  by_cases h2 : zCh (zR tb) tb.length set = false
  ·rw [if_pos h2]; exact zKH tb set a b hs v1 h2
  rw [if_neg h2] at h ⊢
  have h2' : zCh (zR tb) tb.length set = true:=by simpa using h2
  by_cases h3 : ¬ (a.val = true /\ b.val = true)
  ·rw [if_pos h3]; exact zJ3 tb set a b hs v1 h2' h3
  rw [if_neg h3] at h ⊢
  by_cases h4 : idI (zR tb) tb.length < 0 /\ (a.zB2 || b.zB2) = true
  ·rw [if_pos h4]; exact zKE tb set a b hs v1 h2' (Decidable.not_not.1 h3) h4.1 h4.2
  rw [if_neg h4] at h
  exact absurd rfl h
 ·obtain ⟨v1,hc,e3,e6⟩:=zMH h
  exact zKB tb set a b hs v1 hc e3 e6
def zPf (T : Nat -> Nat -> Nat) (n : Nat) (R : List (List Int)) (a b : Tm) (budget : Nat) : Nat × Bool × Bool × List Nat:=runH (asV T n R a) (asV T n R b) R budget 0 (List.replicate R.length 0)
noncomputable def zF5 (tb : List (List Int)) (set : List Int) (a b : Tm) (budget : Int) : List Int × Nat × Int :=
 if zCx tb set a b ≠ 0 then ([],0,zCx tb set a b)
 else if budget < 1 \/ 1048576 < budget then ([],0,1)
 else if zKJ (zDa (zR tb) set a b) = true then ([],0,9)
 else if (zPf (zR tb) tb.length (zDa (zR tb) set a b) a b budget.toNat).2.1 = true then (asg (zDa (zR tb) set a b) (zPf (zR tb) tb.length (zDa (zR tb) set a b) a b budget.toNat).2.2.2,(zPf (zR tb) tb.length (zDa (zR tb) set a b) a b budget.toNat).1,0)
 else if (zPf (zR tb) tb.length (zDa (zR tb) set a b) a b budget.toNat).2.2.1 = true then ([],(zPf (zR tb) tb.length (zDa (zR tb) set a b) a b budget.toNat).1,9)
 else ([],0,7)
def zUZ (x : List Int × Nat × Int) : AV:=.tup [.t 2 (ints x.1),.t 2 (.int .i64 (x.2.1 : Nat)),.t 2 (.int .i64 x.2.2)]
def zPR (x : List Int × Nat × Int) : AV:=.tup [.t 2 (if x.2.2 = 0 then ints x.1 else .sl 0 []),.t 2 (.int .i64 (x.2.1 : Nat)),.t 2 (.int .i64 x.2.2)]
theorem zLK (pa pb : List (Int × Int)) (R : List (List Int)) (hRl : R.length <= 1000) (tb : List (List Int)) (T : Nat -> Nat -> Nat) (n : Nat) (one : Int) (u : Nat -> Bool) (N : List Nat) :
  FnS Tryz.prog 42 [.ptr 0 0 5] [huO pa pb R 1 2,mcO tb T n one u,nxO N] (.t 2 (.bool (zKJ R))) [huO pa pb R 1 2,mcO tb T n one u,nxO N]:=by
 have h1:=zLI R hRl
 refine fI 8 #[.tmp 2] Tryz.func42 rfl ?_
 refine rg0 ?_
 refine rc1 h1 @huO.eq_1 ?_
 refine zC ?_
 exact zPt (an @huO.eq_1 (an @mcO.eq_1 (an @zm (an @nxO.eq_1 @pgT.eq_1))))
theorem zHK (tb : List (List Int)) (set : List Int) (a b : Tm) (hs : set.length <= 100000) (budget : Int) :
  FnA Tryz.prog 25 [.t 1 (rows tb),.t 0 (ints set),idV 0 a b,.t 2 (.int .i64 budget)] (zPR (zF5 tb set a b budget)):=by
 refine fI 49 #[.tmp 8,.tmp 9,.tmp 10] Tryz.func25 rfl ?_
 unfold zF5
 by_cases hE : zCx tb set a b ≠ 0
 ·have hh:=(zEP tb set a b hs).1 hE
  rw [if_pos hE]
  unfold zPR
  simp only [if_neg hE]
  generalize zCx tb set a b = er at hE hh ⊢
  have hEb : (er == 0) = false:=by simpa using hE
  refine rg1 @idV.eq_1 ?_
  refine zI fun K hK=>?_
  simp (maxSteps:=2000000) (disch:=omega) [ints,rows,scal,zK,wr8]
  (repeat' apply And.intro)
  all_goals (try omega)
  refine zD (caps:=[]) (hh) [] [] 1 rfl rfl rfl rfl (by kernel_rfl) (by simp) ?_ ?_ (by simp) rfl (by simp) trivial (by simp [idV]) ?_
  ·simp [scal,rows,ints,idV]
  ·trivial
  simp (maxSteps:=2000000) (disch:=omega) [ints,rows,scal,zK,wr8]
  and_intros <;> try first | apply hK | omega | rfl | simp <;> omega
  refine zA ?_
  refine rg0 ?_
  refine cT1 @hE ?_
  refine rg0 ?_
  exact zC (rt1 @idV.eq_1)
 have hE0 : zCx tb set a b = 0:=Decidable.not_not.1 hE
 have hh:=(zEP tb set a b hs).2 hE0
 obtain ⟨v1,hc,e3,e6⟩:=zMH hE0
 rw [if_neg hE]
 have ht:=TbL.of v1
 obtain ⟨hl0,hl4⟩:=zCI v1
 have hRl:=zIr (zR tb) set a b
 have hga:=zRd a (zB6 e3.1).1
 have hgb:=zRd b (zB6 e3.2).1
 have hH:=zRb ht.lt (zFp v1) (zQn hc.rng a b) e3.1 e3.2 hRl e6
 have hRL:=zRC (T:=zR tb) (set:=set) a b
 unfold zPf
 generalize zDa (zR tb) set a b = R at hh hRl hH hRL ⊢
 generalize zHT [a.cmp,b.cmp] zU = U at hh hH ⊢
 generalize asV (zR tb) tb.length R a = va at hH ⊢
 generalize asV (zR tb) tb.length R b = vb at hH ⊢
 generalize a.cmp = pa at hh hH
 generalize b.cmp = pb at hh hH
 generalize idI (zR tb) tb.length = one at hh hH
 refine rg1 @idV.eq_1 ?_
 refine zI fun K hK=>?_
 simp (maxSteps:=2000000) (disch:=omega) [ints,rows,scal,zK,wr8]
 (repeat' apply And.intro)
 all_goals (try omega)
 refine zD (caps:=[]) (hh) [] [7000000,7000001,7000002] 1 rfl rfl rfl rfl (by kernel_rfl) (by simp) ?_ ?_ (by simp) rfl (by simp) ⟨.inl ⟨by omega,by omega⟩,.inl ⟨by omega,by omega⟩,.inl ⟨by omega,by omega⟩,trivial⟩ (by simp [idV,huO,mcO,nxO]) ?_
 ·simp [scal,rows,ints,idV,huO,mcO,nxO]
 ·trivial
 simp (maxSteps:=2000000) (disch:=omega) [ints,rows,scal,zK,wr8,huO,mcO,zT,nxO]
 and_intros <;> try first | apply hK | omega | rfl | simp <;> omega
 refine zA ?_
 refine rg0 ?_
 refine cS0 ?_
 refine zX (σ':=mkS [(3,.t 2 (.int .i64 budget)),(11,.ptr 0 0 5)] [(0,huO pa pb R 1 2),(1,mcO tb (zR tb) tb.length one U),(2,nxO (List.replicate R.length 0))] 3 49 [.any,.any,.any,.any]) ?_ ?_
 ·exact kw1 [(0,some 7000000),(1,some 7000001),(2,some 7000002)] (an @huO.eq_1 (an @mcO.eq_1 (an @zm (an @zT (an @nxO.eq_1 (an @rows.eq_1 @pgT.eq_1))))))
 refine zA ?_
 by_cases hb1 : budget < 1
 ·rw [if_pos (.inl hb1)]
  refine rg1 @hb1 ?_
  refine cT1 @hb1 ?_
  refine rg0 ?_
  refine zC ?_
  unfold zPR
  refine ⟨⟨.inr rfl,_,[],(by first | rfl | (simp [ints,rows,scal,idV]; rfl)),?_,?_,?_,?_⟩,?_⟩
  all_goals try simp [ints,rows,scal,idV]
 by_cases hb2 : 1048576 < budget
 ·rw [if_pos (.inr hb2)]
  refine rg1 (an @hb1 @hb2) ?_
  refine cT1 @hb2 ?_
  refine rg0 ?_
  refine zC ?_
  unfold zPR
  refine ⟨⟨.inr rfl,_,[],(by first | rfl | (simp [ints,rows,scal,idV]; rfl)),?_,?_,?_,?_⟩,?_⟩
  all_goals try simp [ints,rows,scal,idV]
 rw [if_neg (by omega)]
 have hEm:=zLK pa pb R (by omega) tb (zR tb) tb.length one U (List.replicate R.length 0)
 refine rg1 (an @hb1 @hb2) ?_
 refine cS1 @hb2 ?_
 refine zA ?_
 refine zI fun K hK=>?_
 simp (maxSteps:=2000000) (disch:=omega) [ints,rows,scal,zK,wr8]
 (repeat' apply And.intro)
 all_goals (try omega)
 refine zD (caps:=[]) (hEm) [0,1,2] [0,7000003,7000004] 1 rfl rfl rfl rfl (by kernel_rfl) (by simp) ?_ ?_ (by simp) rfl (by simp) ⟨.inr ⟨rfl,0,_,_,_,_,_,rfl,rfl,(by first | rfl | simp [huO,mcO,zq,zT,nxO,pgT,rows]),rfl,(by first | rfl | simp [huO,mcO,zq,zT,nxO,pgT,rows])⟩,.inl ⟨by omega,by omega⟩,.inl ⟨by omega,by omega⟩,trivial⟩ (by simp [huO,mcO,zq,zT,nxO,pgT,rows]) ?_
 ·simp [scal,rows,ints,huO,mcO,zq,zT,nxO,pgT,rows]
 ·simp [scal,rows,ints,huO,mcO,zq,zT,nxO,pgT,rows]
 simp (maxSteps:=2000000) (disch:=omega) [ints,rows,scal,zK,wr8,huO,mcO,zT,nxO]
 (repeat' first | apply hK | apply And.intro) <;> try first | omega | rfl | (simp <;> omega)
 cases hem : zKJ R with
 | true =>
  simp only [↓reduceIte]
  refine cT1 @hem ?_
  refine rg0 ?_
  refine zC ?_
  unfold zPR
  refine ⟨⟨.inr rfl,_,[],(by first | rfl | (simp [ints,rows,scal,idV]; rfl)),?_,?_,?_,?_⟩,?_⟩
  all_goals try simp [ints,rows,scal,idV]
 | false =>
  simp only [Bool.false_eq_true,↓reduceIte]
  obtain ⟨lim,rfl⟩ : ∃ lim : Nat,budget = (lim : Int):=⟨budget.toNat,by omega⟩
  rw [Int.toNat_natCast]
  have hz:=zLO hem
  have hRun:=zP7 pa pb R (by omega) (fun l hl=>by have:=hRL l hl; omega) tb (zR tb) tb.length ht (zFp v1) (by omega) one U va vb hH lim (by omega) _ hz
  have hok:=(zIX (v1:=va) (v2:=vb) lim 0 hz).1
  generalize runH va vb R lim 0 (List.replicate R.length 0) = x at hRun hok ⊢
  obtain ⟨st,fo,dn,M⟩:=x
  simp only at hRun hok ⊢
  have hVa:=zEw pa pb R (by omega) tb (zR tb) tb.length one U M hok
  refine cS1 @hem ?_
  refine zX (σ':=mkS [(3,.t 2 (.int .i64 (lim : Nat))),(11,.ptr 0 0 5)] [(0,huO pa pb R 1 2),(1,mcO tb (zR tb) tb.length one U),(2,nxO (List.replicate R.length 0))] 3 49 [.any,.any,.any,.any]) ?_ ?_
  ·exact kw1 [(0,some 0),(1,some 7000003),(2,some 7000004)] (an @huO.eq_1 (an @mcO.eq_1 (an @zm (an @zT (an @nxO.eq_1 (an @rows.eq_1 @pgT.eq_1))))))
  refine zI fun K hK=>?_
  simp (maxSteps:=2000000) (disch:=omega) [ints,rows,scal,zK,wr8]
  (repeat' apply And.intro)
  all_goals (try omega)
  refine zD (caps:=[]) (hRun) [0,1,2] [0,2000003,2000004] 1 rfl rfl rfl rfl (by kernel_rfl) (by simp) ?_ ?_ (by simp) rfl (by simp) ⟨.inr ⟨rfl,0,_,_,_,_,_,rfl,rfl,(by first | rfl | simp [huO,mcO,zq,zT,nxO,pgT,rows]),rfl,(by first | rfl | simp [huO,mcO,zq,zT,nxO,pgT,rows])⟩,.inl ⟨by omega,by omega⟩,.inl ⟨by omega,by omega⟩,trivial⟩ (by simp [huO,mcO,zq,zT,nxO,pgT,rows]) ?_
  ·simp [scal,rows,ints,huO,mcO,zq,zT,nxO,pgT,rows]
  ·simp [scal,rows,ints,huO,mcO,zq,zT,nxO,pgT,rows]
  simp (maxSteps:=2000000) (disch:=omega) [ints,rows,scal,zK,wr8,huO,mcO,zT,nxO]
  and_intros <;> try first | apply hK | omega | rfl | simp <;> omega
  refine zX (σ':=mkS [(11,.ptr 0 0 5),(13,.t 2 (.int .i64 (st : Nat))),(14,.t 2 (.bool fo)),(15,.t 2 (.bool dn))] [(0,huO pa pb R 1 2),(1,mcO tb (zR tb) tb.length one U),(2,nxO M)] 3 49 [.any,.any,.any,.any]) ?_ ?_
  ·exact kw1 [(0,some 0),(1,some 2000003),(2,some 2000004)] (an @huO.eq_1 (an @mcO.eq_1 (an @zm (an @zT (an @nxO.eq_1 (an @rows.eq_1 @pgT.eq_1))))))
  refine zA ?_
  refine zB ?_
  refine rg0 ?_
  cases fo with
  | true =>
   simp only [↓reduceIte]
   refine cT0 ?_
   refine zI fun K hK=>?_
   simp (maxSteps:=2000000) (disch:=omega) [ints,rows,scal,zK,wr8]
   (repeat' apply And.intro)
   all_goals (try omega)
   refine zD (caps:=[]) (hVa) [0,1,2] [0,3000003,3000004,3000005] 1 rfl rfl rfl rfl (by kernel_rfl) (by simp) ?_ ?_ (by simp) rfl (by simp) ⟨.inr ⟨rfl,0,_,_,_,_,_,rfl,rfl,(by first | rfl | simp [huO,mcO,zq,zT,nxO,pgT,rows,vaO]),rfl,(by first | rfl | simp [huO,mcO,zq,zT,nxO,pgT,rows,vaO])⟩,.inl ⟨by omega,by omega⟩,.inl ⟨by omega,by omega⟩,.inl ⟨by omega,by omega⟩,trivial⟩ (by simp [huO,mcO,zq,zT,nxO,pgT,rows,vaO]) ?_
   ·simp [scal,rows,ints,huO,mcO,zq,zT,nxO,pgT,rows,vaO]
   ·simp [scal,rows,ints,huO,mcO,zq,zT,nxO,pgT,rows,vaO]
   simp (maxSteps:=2000000) (disch:=omega) [ints,rows,scal,zK,wr8,huO,mcO,zT,nxO,vaO]
   and_intros <;> try first | apply hK | omega | rfl | simp <;> omega
   refine zC ?_
   unfold zPR
   refine ⟨⟨.inr rfl,_,[],(by first | rfl | (simp [ints,rows,scal,idV,asg,ze]; rfl)),?_,?_,?_,?_⟩,?_⟩
   all_goals try simp [ints,rows,scal,idV,asg,ze]
  | false =>
   simp only [Bool.false_eq_true,↓reduceIte]
   refine cF0 ?_
   refine rg0 ?_
   cases dn with
   | true =>
    simp only [↓reduceIte]
    refine cT0 ?_
    refine rg0 ?_
    refine zC ?_
    unfold zPR
    refine ⟨⟨.inr rfl,_,[],(by first | rfl | (simp [ints,rows,scal,idV]; rfl)),?_,?_,?_,?_⟩,?_⟩
    all_goals try simp [ints,rows,scal,idV]
   | false =>
    simp only [Bool.false_eq_true,↓reduceIte]
    refine cY0 ?_
    show awp _ _ _ _
    refine rg0 ?_
    refine zC ?_
    unfold zPR
    refine ⟨⟨.inr rfl,_,[],(by first | rfl | (simp [ints,rows,scal,idV]; rfl)),?_,?_,?_,?_⟩,?_⟩
    all_goals try simp [ints,rows,scal,idV]
theorem zNY {tb : List (List Int)} {set : List Int} {a b : Tm} {budget : Int} (h : (zF5 tb set a b budget).2.2 ≠ 0) : (zF5 tb set a b budget).1 = []:=by
 unfold zF5 at h ⊢
 by_cases h1 : zCx tb set a b ≠ 0
 ·rw [if_pos h1]
 rw [if_neg h1] at h ⊢
 by_cases h2 : budget < 1 \/ 1048576 < budget
 ·rw [if_pos h2]
 rw [if_neg h2] at h ⊢
 by_cases h3 : zKJ (zDa (zR tb) set a b) = true
 ·rw [if_pos h3]
 rw [if_neg h3] at h ⊢
 by_cases h4 : (zPf (zR tb) tb.length (zDa (zR tb) set a b) a b budget.toNat).2.1 = true
 ·rw [if_pos h4] at h; exact absurd rfl h
 rw [if_neg h4]
 split <;> rfl
theorem zIn (tb : List (List Int)) (set : List Int) (a b : Tm) (hs : set.length <= 100000) (budget : Int) :
  FnA Tryz.prog 25 [.t 1 (rows tb),.t 0 (ints set),idV 0 a b,.t 2 (.int .i64 budget)] (zUZ (zF5 tb set a b budget)) :=
 FnS.zSI (zHK tb set a b hs budget) fun E v h=>h.upT ⟨fun E v h=>by
  by_cases e : (zF5 tb set a b budget).2.2 = 0
  ·rw [if_pos e] at h; exact h
  ·rw [if_neg e] at h; rw [zNY e]; exact h.zUH 1,fun _ _ h=>h,fun _ _ h=>h,trivial⟩
end Go.Proofs.YtgelfgpcnaeecaaGreatDoor.M
