/-
  Walks in my logic: MayLetters, Validate of automata, OfDFA, Access.
  Automata in plain Lean: what a search over the states gives; canonical numbers; the minimal automaton is determined.
  Walks in my logic: both, Classes.
  The quotient of an automaton by a partition of its states, in plain Lean.
-/
import Derived.Test.YtgelfgpcnaeecaaGreatDoorZsae
import Derived.Test.YtgelfgpcnaeecaaGreatDoorZsad
import Derived.Test.YtgelfgpcnaeecaaGreatDoorZsaf
namespace Go.Proofs.YtgelfgpcnaeecaaGreatDoor.M
open Go.RowKit
set_option linter.unusedVariables false
set_option linter.unusedSimpArgs false
set_option maxRecDepth 100000
set_option maxHeartbeats 32000000

theorem DfL.rt {L n s : Nat} {bs : List Bool} {nxt : List (List Int)} (h : DfL L n s bs nxt) : zO8 L n nxt :=
 ⟨h.nl,fun i r hr=>by
  obtain ⟨h1,h2⟩:=h.row r (List.mem_of_getElem? hr)
  refine ⟨h1,fun x j hx=>?_⟩
  obtain ⟨h3,h4⟩:=h2 j (List.mem_of_getElem? hx)
  exact ⟨j.toNat,by omega,by omega⟩⟩
def lets (n : Nat) (nxt : List (List Int)) (x : Nat) : List Int:=tab n fun q=>(zJ nxt q x : Int)
theorem DfL.gn {L n s : Nat} {bs : List Bool} {nxt : List (List Int)} (h : DfL L n s bs nxt) (hL : 1 <= L) (hL2 : L <= 6) (hn : n <= 32) : zOw n (tab L (lets n nxt)):=by
 refine ⟨h.n1,hn,by simpa using hL,by simpa using hL2,fun g hg=>?_⟩
 simp only [tab,List.mem_map,List.mem_range] at hg
 obtain ⟨x,hx,rfl⟩:=hg
 refine ⟨by simp [lets],fun v hv=>?_⟩
 simp only [lets,tab,List.mem_map,List.mem_range] at hv
 obtain ⟨q,hq,rfl⟩:=hv
 have:=(h.rt.step hq hx).1
 omega
theorem zBr {n : Nat} : ∀ {l : List Nat},l.Nodup -> (∀ x ∈ l,x < n) -> l.length <= n:=by
 induction n with
 | zero =>
  intro l _ h
  cases l with
  | nil=>simp
  | cons a l=>have:=h a (by simp); omega
 | succ n ih =>
  intro l hd h
  by_cases hm : n ∈ l
  ·have h1:=ih (hd.erase n) (fun x hx=>by
    have:=h x (List.mem_of_mem_erase hx)
    have hne : x ≠ n:=fun e=>by subst e; exact (hd.not_mem_erase) hx
    omega)
   have:=List.length_erase_of_mem hm
   have : 0 < l.length:=List.length_pos_of_mem hm
   omega
  ·have:=ih hd (fun x hx=>by
    have:=h x hx
    have hne : x ≠ n:=fun e=>hm (e ▸ hx)
    omega)
   omega
def zLX (L : Nat) (nxt : List (List Int)) (ss : List Nat) (k : Nat) : Nat:=zJ nxt (ss.getD (k / L) 0) (k % L)
def FO (L : Nat) (nxt : List (List Int)) (ss : List Nat) (p : Nat) : Prop:=∀ t,0 < t -> t < ss.length -> ∃ k,k < p /\ k / L < t /\ zLX L nxt ss k = ss.getD t 0 /\ ∀ j,j < k -> zLX L nxt ss j ∈ ss.take t
theorem FO.start {L s p : Nat} {nxt : List (List Int)} : FO L nxt [s] p:=fun t h1 h2=>by simp at h2; omega
theorem FO.mono {L p p' : Nat} {nxt : List (List Int)} {ss : List Nat} (h : FO L nxt ss p) (hp : p <= p') : FO L nxt ss p':=fun t h1 h2=>by
 obtain ⟨k,a,b⟩:=h t h1 h2
 exact ⟨k,by omega,b⟩
theorem FO.fin {L p : Nat} {nxt : List (List Int)} {ss : List Nat} (h : FO L nxt ss p) (hL : 0 < L) : FO L nxt ss (ss.length * L):=fun t h1 h2=>by
 obtain ⟨k,a,b,c⟩:=h t h1 h2
 exact ⟨k,(Nat.div_lt_iff_lt_mul hL).1 (by omega),b,c⟩
theorem zDp {L k q : Nat} {nxt : List (List Int)} {ss : List Nat} (h : k / L < ss.length) : zLX L nxt (ss ++ [q]) k = zLX L nxt ss k:=by
 unfold zLX
 rw [List.getD_eq_getElem?_getD,List.getD_eq_getElem?_getD,List.getElem?_append_left h]
theorem zLv {L i x a : Nat} {nxt : List (List Int)} {ss : List Nat} (hx : x < L) (hi : ss[i]? = some a) : zLX L nxt ss (i * L + x) = zJ nxt a x:=by
 have h1 : (i * L + x) / L = i:=by rw [Nat.mul_comm,Nat.mul_add_div (by omega),Nat.div_eq_of_lt hx,Nat.add_zero]
 have h2 : (i * L + x) % L = x:=by rw [Nat.mul_comm,Nat.mul_add_mod,Nat.mod_eq_of_lt hx]
 unfold zLX
 rw [h1,h2,List.getD_eq_getElem?_getD,hi]
 rfl
theorem FO.add {L i x a : Nat} {nxt : List (List Int)} {ss : List Nat} (h : FO L nxt ss (i * L + x)) (hx : x < L) (hi : ss[i]? = some a)
  (done : ∀ (j y : Nat) q,j < i -> ss[j]? = some q -> y < L -> zJ nxt q y ∈ ss) (row : ∀ (y : Nat) q,y < x -> ss[i]? = some q -> zJ nxt q y ∈ ss) : FO L nxt (ss ++ [zJ nxt a x]) (i * L + (x + 1)):=by
 have hil:=(List.getElem?_eq_some_iff.1 hi).1
 have hpos : 0 < L:=by omega
 intro t h1 h2
 simp only [List.length_append,List.length_singleton] at h2
 by_cases e : t = ss.length
 ·subst e
  have hd : (i * L + x) / L = i:=by rw [Nat.mul_comm,Nat.mul_add_div hpos,Nat.div_eq_of_lt hx,Nat.add_zero]
  refine ⟨i * L + x,by omega,by rw [hd]; exact hil,?_,fun j hj=>?_⟩
  ·rw [zDp (by rw [hd]; exact hil),zLv hx hi]
   simp
  ·have hjd : j / L <= i:=by rw [← hd]; exact Nat.div_le_div_right (by omega)
   have hjm : j % L < L:=Nat.mod_lt _ hpos
   have hje : j / L * L + j % L = j:=by rw [Nat.mul_comm]; exact Nat.div_add_mod j L
   rw [zDp (by omega),List.take_append_of_le_length (Nat.le_refl _),List.take_length]
   obtain ⟨v,hg⟩ : ∃ v,ss[j / L]? = some v:=⟨_,List.getElem?_eq_getElem (by omega)⟩
   have hs : zLX L nxt ss j = zJ nxt v (j % L):=by
    rw [← zLv hjm hg,hje]
   rw [hs]
   by_cases ei : j / L = i
   ·rw [ei] at hje
    exact row _ _ (by omega) (ei ▸ hg)
   ·exact done _ _ _ (by omega) hg hjm
 ·obtain ⟨k,k1,k2,k3,k4⟩:=h t h1 (by omega)
  refine ⟨k,by omega,k2,?_,fun j hj=>?_⟩
  ·rw [zDp (by omega),k3,List.getD_eq_getElem?_getD,List.getD_eq_getElem?_getD,List.getElem?_append_left (by omega)]
  ·have hjd : j / L <= k / L:=Nat.div_le_div_right (by omega)
   rw [zDp (by omega),List.take_append_of_le_length (by omega)]
   exact k4 j hj
structure AcI (n L s : Nat) (nxt : List (List Int)) (ss : List Nat) (wds : List (List Nat)) (met : Nat -> Bool) (i x : Nat) : Prop where
 nod : ss.Nodup
 rng : ∀ q ∈ ss,q < n
 fst : ss[0]? = some s
 met : ∀ q,q < n -> (met q = true ↔ q ∈ ss)
 done : ∀ (j y : Nat) q,j < i -> ss[j]? = some q -> y < L -> zJ nxt q y ∈ ss
 row : ∀ (y : Nat) q,y < x -> ss[i]? = some q -> zJ nxt q y ∈ ss
 wl : wds.length = ss.length
 wn : ∀ (j : Nat) w,wds[j]? = some w -> w.length <= j
 fo : FO L nxt ss (i * L + x)
section
variable {n L s : Nat} {nxt : List (List Int)} {ss : List Nat} {wds : List (List Nat)} {met : Nat -> Bool} {i x : Nat}
theorem AcI.start (hs : s < n) : AcI n L s nxt [s] [[]] (fun j=>decide (j = s)) 0 0 :=
 ⟨by simp,fun q hq=>by simp at hq; omega,rfl,fun q _=>by simp,fun j y q h=>by omega,fun y q h=>by omega,rfl,fun j w h=>by cases j <;> simp at h; subst h; simp,FO.start⟩
theorem AcI.len (h : AcI n L s nxt ss wds met i x) : ss.length <= n:=zBr h.nod h.rng
theorem AcI.old (h : AcI n L s nxt ss wds met i x) {p : Nat} (hi : ss[i]? = some p) (hq : zJ nxt p x < n) (hm : met (zJ nxt p x) = true) : AcI n L s nxt ss wds met i (x + 1) :=
 ⟨h.nod,h.rng,h.fst,h.met,h.done,fun y q hy hq2=>by
  by_cases e : y = x
  ·subst e
   rw [hi] at hq2
   injection hq2 with hq2
   subst hq2
   exact (h.met _ hq).1 hm
  ·exact h.row y q (by omega) hq2,h.wl,h.wn,h.fo.mono (by omega)⟩
theorem AcI.add (h : AcI n L s nxt ss wds met i x) {p : Nat} (hx : x < L) (hi : ss[i]? = some p) (hq : zJ nxt p x < n) (hm : met (zJ nxt p x) = false) {w : List Nat} (hw : wds[i]? = some w) : AcI n L s nxt (ss ++ [zJ nxt p x]) (wds ++ [w ++ [x]]) (fun j=>if j = zJ nxt p x then true else met j) i (x + 1):=by
 have hni : zJ nxt p x ∉ ss:=fun hc=>by rw [(h.met _ hq).2 hc] at hm; cases hm
 have hil:=(List.getElem?_eq_some_iff.1 hi).1
 have key : ∀ (j : Nat) q,j <= i -> (ss ++ [zJ nxt p x])[j]? = some q -> ss[j]? = some q:=fun j q hj hq=>by rwa [List.getElem?_append_left (by omega)] at hq
 refine ⟨?_,fun q hqm=>?_,by rw [List.getElem?_append_left (by omega)]; exact h.fst,fun q hqn=>?_,fun j y q hj hjl hy=>List.mem_append_left _ (h.done j y q hj (key j q (by omega) hjl) hy),fun y q hy hiq=>?_,by simp [h.wl],fun j u hu=>?_,h.fo.add hx hi h.done h.row⟩
 ·rw [List.nodup_append]
  exact ⟨h.nod,by simp,fun a ha b hb=>by simp at hb; subst hb; exact fun e=>hni (e ▸ ha)⟩
 ·rcases List.mem_append.1 hqm with hqm | hqm
  ·exact h.rng q hqm
  ·simp at hqm; omega
 ·by_cases e : q = zJ nxt p x
  ·simp [e]
  ·simp [e,h.met q hqn]
 ·have hiq2:=key i q (Nat.le_refl _) hiq
  by_cases e : y = x
  ·subst e
   rw [hi] at hiq2
   injection hiq2 with hiq2
   rw [← hiq2]
   simp
  ·exact List.mem_append_left _ (h.row y q (by omega) hiq2)
 ·by_cases hjl : j < wds.length
  ·rw [List.getElem?_append_left hjl] at hu; exact h.wn j u hu
  ·have:=(List.getElem?_eq_some_iff.1 hu).1
   simp at this
   have e : j = wds.length:=by omega
   subst e
   simp at hu
   subst hu
   have:=h.wn i w hw
   have:=h.wl
   simp; omega
theorem AcI.next (h : AcI n L s nxt ss wds met i L) : AcI n L s nxt ss wds met (i + 1) 0 :=
 ⟨h.nod,h.rng,h.fst,h.met,fun j y q hj hjl hy=>by
  by_cases e : j = i
  ·subst e; exact h.row y q hy hjl
  ·exact h.done j y q (by omega) hjl hy,fun y q hy=>by omega,h.wl,h.wn,h.fo.mono (by rw [Nat.add_mul]; omega)⟩
end
def zAS (ss : List Nat) : List T:=ss.map fun (q : Nat)=>.int .i64 (q : Int)
def zAf (bs : List Bool) (nxt : List (List Int)) (s : Nat) (w : List Nat) : Bool:=bs.getD (zZ nxt s w) false
theorem zC1 {nx : List (List Int)} {j y t : Nat} {r : List Int} (h1 : nx[j]? = some r) (h2 : r[y]? = some (t : Int)) : zJ nx j y = t:=by
 simp [zJ,List.getD_eq_getElem?_getD,h1,h2]
theorem zC3 {L : Nat} {bs bs' : List Bool} {nxt nx' : List (List Int)} (f : Nat -> Nat -> Prop)
  (h1 : ∀ i q,f i q -> bs'.getD i false = bs.getD q false) (h2 : ∀ i q x,f i q -> x < L -> f (zJ nx' i x) (zJ nxt q x)) :
  ∀ (w : List Nat),(∀ a ∈ w,a < L) -> ∀ i q,f i q -> zAf bs' nx' i w = zAf bs nxt q w
 | [],_,i,q,h=>h1 i q h
 | a :: w,hw,i,q,h=>zC3 f h1 h2 w (fun b hb=>hw b (by simp [hb])) _ _ (h2 i q a h (hw a (by simp)))
def zID (nxt : List (List Int)) (ss : List Nat) (q : Nat) (r : List Int) (x : Nat) : Prop:=∀ y,y < x -> ∃ t : Nat,r[y]? = some (t : Int) /\ ss[t]? = some (zJ nxt q y)
theorem zID.app {nxt : List (List Int)} {ss : List Nat} {q : Nat} {r : List Int} {x : Nat} (h : zID nxt ss q r x) (ys : List Nat) : zID nxt (ss ++ ys) q r x:=fun y hy=>by
 obtain ⟨t,h1,h2⟩:=h y hy
 exact ⟨t,h1,by rw [List.getElem?_append_left (List.getElem?_eq_some_iff.1 h2).1]; exact h2⟩
theorem zID.set {nxt : List (List Int)} {ss : List Nat} {q : Nat} {r : List Int} {x t : Nat} (h : zID nxt ss q r x) (hx : x < r.length) (ht : ss[t]? = some (zJ nxt q x)) : zID nxt ss q (r.set x (t : Int)) (x + 1):=fun y hy=>by
 by_cases e : y = x
 ·subst e
  exact ⟨t,by rw [List.getElem?_set_self hx],ht⟩
 ·obtain ⟨u,h1,h2⟩:=h y (by omega)
  exact ⟨u,by rw [List.getElem?_set_ne (by omega)]; exact h1,h2⟩
structure ExI (L n s : Nat) (bs : List Bool) (nxt : List (List Int)) (ss : List Nat) (bs' : List Bool) (nx' : List (List Int)) (i : Nat) : Prop where
 nd : ss.Nodup
 z : ss[0]? = some s
 lt : ∀ q ∈ ss,q < n
 bl : bs'.length = i
 nl : nx'.length = i
 le : i <= ss.length
 row : ∀ (j : Nat) q,j < i -> ss[j]? = some q -> bs'[j]? = bs[q]? /\ ∃ r,nx'[j]? = some r /\ r.length = L /\ zID nxt ss q r L
theorem ExI.start {L n s : Nat} {bs : List Bool} {nxt : List (List Int)} (h : s < n) : ExI L n s bs nxt [s] [] [] 0 :=
 ⟨by simp,rfl,fun q hq=>by simp only [List.mem_singleton] at hq; rw [hq]; exact h,rfl,rfl,by simp,fun j q hj=>by omega⟩
theorem ExI.app {L n s : Nat} {bs : List Bool} {nxt : List (List Int)} {ss : List Nat} {bs' : List Bool} {nx' : List (List Int)} {i : Nat} (h : ExI L n s bs nxt ss bs' nx' i) {q : Nat} (hq : q < n) (hn : q ∉ ss) : ExI L n s bs nxt (ss ++ [q]) bs' nx' i:=by
 refine ⟨List.nodup_append.2 ⟨h.nd,by simp,fun x hx y hy=>by
  simp only [List.mem_singleton] at hy
  subst hy
  intro e
  exact hn (e ▸ hx)⟩,by rw [List.getElem?_append_left (List.getElem?_eq_some_iff.1 h.z).1]; exact h.z,fun x hx=>?_,h.bl,h.nl,by have:=h.le; simp; omega,fun j p hj hp=>?_⟩
 ·rcases List.mem_append.1 hx with hx | hx
  ·exact h.lt x hx
  ·simp only [List.mem_singleton] at hx
   rw [hx]; exact hq
 ·rw [List.getElem?_append_left (by have:=h.le; omega)] at hp
  obtain ⟨h1,r,h2,h3,h4⟩:=h.row j p hj hp
  exact ⟨h1,r,h2,h3,h4.app _⟩
theorem ExI.done {L n s : Nat} {bs : List Bool} {nxt : List (List Int)} {ss : List Nat} {bs' : List Bool} {nx' : List (List Int)} {i q : Nat} {r : List Int} {b : Bool} (h : ExI L n s bs nxt ss bs' nx' i) (hq : ss[i]? = some q) (hb : bs[q]? = some b) (hr : r.length = L) (hR : zID nxt ss q r L) :
  ExI L n s bs nxt ss (bs' ++ [b]) (nx' ++ [r]) (i + 1):=by
 refine ⟨h.nd,h.z,h.lt,by simp [h.bl],by simp [h.nl],(List.getElem?_eq_some_iff.1 hq).1,fun j p hj hp=>?_⟩
 by_cases e : j = i
 ·subst e
  rw [hq] at hp
  injection hp with hp
  subst hp
  refine ⟨?_,r,?_,hr,hR⟩
  ·rw [hb,List.getElem?_append_right (by rw [h.bl]; exact Nat.le_refl _),h.bl,Nat.sub_self]; rfl
  ·rw [List.getElem?_append_right (by rw [h.nl]; exact Nat.le_refl _),h.nl,Nat.sub_self]; rfl
 ·obtain ⟨h1,r',h2,h3,h4⟩:=h.row j p (by omega) hp
  refine ⟨?_,r',?_,h3,h4⟩
  ·rw [List.getElem?_append_left (by rw [h.bl]; omega)]; exact h1
  ·rw [List.getElem?_append_left (by rw [h.nl]; omega)]; exact h2
theorem ExI.len {L n s : Nat} {bs : List Bool} {nxt : List (List Int)} {ss : List Nat} {bs' : List Bool} {nx' : List (List Int)} {i : Nat} (h : ExI L n s bs nxt ss bs' nx' i) : ss.length <= n:=zBr h.nd h.lt
theorem ExI.fin {L n s : Nat} {bs : List Bool} {nxt : List (List Int)} {ss : List Nat} {bs' : List Bool} {nx' : List (List Int)} (h : ExI L n s bs nxt ss bs' nx' ss.length) : DfL L ss.length 0 bs' nx' /\ ∀ w,(∀ a ∈ w,a < L) -> zAf bs' nx' 0 w = zAf bs nxt s w:=by
 have hp : 0 < ss.length:=(List.getElem?_eq_some_iff.1 h.z).1
 refine ⟨⟨hp,hp,h.bl,h.nl,fun r hr=>?_⟩,fun w hw=>?_⟩
 ·obtain ⟨j,hj,e⟩:=List.getElem_of_mem hr
  have hj' : j < ss.length:=by have:=h.nl; omega
  obtain ⟨h1,r',h2,h3,h4⟩:=h.row j ss[j] hj' (by simp)
  rw [List.getElem?_eq_getElem hj] at h2
  injection h2 with h2
  rw [e] at h2
  subst h2
  refine ⟨h3,fun v hv=>?_⟩
  obtain ⟨y,hy,e⟩:=List.getElem_of_mem hv
  obtain ⟨t,g1,g2⟩:=h4 y (by omega)
  rw [List.getElem?_eq_getElem hy] at g1
  injection g1 with g1
  have:=(List.getElem?_eq_some_iff.1 g2).1
  omega
 ·refine zC3 (fun i q=>ss[i]? = some q) (fun i q e=>?_) (fun i q x e hx=>?_) w hw 0 s h.z
  ·have:=(h.row i q (List.getElem?_eq_some_iff.1 e).1 e).1
   simp only [List.getD_eq_getElem?_getD,this]
  ·obtain ⟨-,r,h2,h3,h4⟩:=h.row i q (List.getElem?_eq_some_iff.1 e).1 e
   obtain ⟨t,g1,g2⟩:=h4 x hx
   rw [zC1 h2 g1]
   exact g2
theorem ExI.all {L n s : Nat} {bs : List Bool} {nxt : List (List Int)} {ss : List Nat} (hn : ss.Nodup) (hz : ss[0]? = some s) (hl : ∀ q ∈ ss,q < n) : ExI L n s bs nxt ss [] [] 0 :=
 ⟨hn,hz,hl,rfl,rfl,by omega,fun j q hj=>by omega⟩
theorem ExI.zKN {L n s : Nat} {bs bs' : List Bool} {nxt nx' : List (List Int)} {ss : List Nat} (h : ExI L n s bs nxt ss bs' nx' ss.length) {i q : Nat} (hi : ss[i]? = some q) : ∀ w,(∀ a ∈ w,a < L) -> zAf bs' nx' i w = zAf bs nxt q w:=fun w hw=>by
 refine zC3 (fun i q=>ss[i]? = some q) (fun i q e=>?_) (fun i q x e hx=>?_) w hw i q hi
 ·have:=(h.row i q (List.getElem?_eq_some_iff.1 e).1 e).1
  simp only [List.getD_eq_getElem?_getD,this]
 ·obtain ⟨-,r,h2,h3,h4⟩:=h.row i q (List.getElem?_eq_some_iff.1 e).1 e
  obtain ⟨t,g1,g2⟩:=h4 x hx
  rw [zC1 h2 g1]
  exact g2
theorem zRi {l : List Nat} (h : l.Nodup) {i j a : Nat} (hi : l[i]? = some a) (hj : l[j]? = some a) : i = j:=by
 obtain ⟨hi1,hi2⟩:=List.getElem?_eq_some_iff.1 hi
 obtain ⟨hj1,hj2⟩:=List.getElem?_eq_some_iff.1 hj
 rcases Nat.lt_trichotomy i j with g | g | g
 ·exact absurd (hi2.trans hj2.symm) (List.pairwise_iff_getElem.1 h i j hi1 hj1 g)
 ·exact g
 ·exact absurd (hj2.trans hi2.symm) (List.pairwise_iff_getElem.1 h j i hj1 hi1 g)
def Can (L m : Nat) (nx : List (List Int)) : Prop:=∀ t,0 < t -> t < m -> ∃ k,k / L < t /\ zJ nx (k / L) (k % L) = t /\ ∀ j,j < k -> zJ nx (j / L) (j % L) < t
theorem ExI.can {L n s p : Nat} {bs bs' : List Bool} {nxt nx' : List (List Int)} {ss : List Nat} (h : ExI L n s bs nxt ss bs' nx' ss.length) (hL : 0 < L) (hf : FO L nxt ss p) : Can L ss.length nx':=fun t h1 h2=>by
 obtain ⟨k,-,k2,k3,k4⟩:=hf t h1 h2
 have key : ∀ j,j / L < ss.length -> ss[zJ nx' (j / L) (j % L)]? = some (zLX L nxt ss j):=fun j hj=>by
  obtain ⟨v,hv⟩ : ∃ v,ss[j / L]? = some v:=⟨_,List.getElem?_eq_getElem hj⟩
  obtain ⟨-,r,g2,g3,g4⟩:=h.row _ _ hj hv
  obtain ⟨u,u1,u2⟩:=g4 _ (Nat.mod_lt j hL)
  rw [zC1 g2 u1,u2]
  unfold zLX
  rw [List.getD_eq_getElem?_getD,hv]
  rfl
 refine ⟨k,k2,?_,fun j hj=>?_⟩
 ·have g:=key k (by omega)
  rw [k3,List.getD_eq_getElem?_getD,List.getElem?_eq_getElem h2] at g
  exact zRi h.nd g (by simp)
 ·have hjk : j / L <= k / L:=Nat.div_le_div_right (by omega)
  have g:=key j (by omega)
  obtain ⟨u,hu,e⟩:=List.getElem_of_mem (k4 j hj)
  simp only [List.length_take] at hu
  rw [List.getElem_take] at e
  have g2 : ss[u]? = some (zLX L nxt ss j):=by rw [List.getElem?_eq_getElem (by omega),e]
  rw [zRi h.nd g g2]
  omega
def LQ (L : Nat) (bs : List Bool) (nxt : List (List Int)) (i j : Nat) : Prop:=∀ w,(∀ a ∈ w,a < L) -> zAf bs nxt i w = zAf bs nxt j w
theorem LQ.step {L i j x : Nat} {bs : List Bool} {nxt : List (List Int)} (h : LQ L bs nxt i j) (hx : x < L) : LQ L bs nxt (zJ nxt i x) (zJ nxt j x):=fun w hw=>h (x :: w) (fun a ha=>by
 rcases List.mem_cons.1 ha with e | e
 ·omega
 ·exact hw a e)
theorem LQ.fin {L i j : Nat} {bs : List Bool} {nxt : List (List Int)} (h : LQ L bs nxt i j) (hi : i < bs.length) (hj : j < bs.length) : bs[i]? = bs[j]?:=by
 have:=h [] (by simp)
 simp only [zAf,zZ,List.foldl_nil,List.getD_eq_getElem?_getD,List.getElem?_eq_getElem hi,List.getElem?_eq_getElem hj,Option.getD_some] at this
 rw [List.getElem?_eq_getElem hi,List.getElem?_eq_getElem hj,this]
def Dis (L m : Nat) (bs : List Bool) (nx : List (List Int)) : Prop:=∀ i j,i < m -> j < m -> (∀ w,(∀ a ∈ w,a < L) -> zAf bs nx i w = zAf bs nx j w) -> i = j
structure MnD (L m : Nat) (bs : List Bool) (nx : List (List Int)) : Prop where
 df : DfL L m 0 bs nx
 can : Can L m nx
 dis : Dis L m bs nx
theorem MnD.of {L m s p : Nat} {bs bs' : List Bool} {nxt nx' : List (List Int)} {ss : List Nat} (hL : 0 < L) (h : ExI L m s bs nxt ss bs' nx' ss.length) (hf : FO L nxt ss p) (hd : Dis L m bs nxt) : MnD L ss.length bs' nx':=by
 refine ⟨h.fin.1,h.can hL hf,fun i j hi hj e=>?_⟩
 have h1 : ss[i]? = some ss[i]:=by simp
 have h2 : ss[j]? = some ss[j]:=by simp
 have e2 : ss[i] = ss[j]:=hd _ _ (h.lt _ (by simp)) (h.lt _ (by simp)) (fun w hw=>by rw [← h.zKN h1 w hw,← h.zKN h2 w hw,e w hw])
 rw [e2] at h1
 exact zRi h.nd h1 h2
structure MiX (L n s : Nat) (bs : List Bool) (nxt : List (List Int)) (m : Nat) (bs' : List Bool) (nx' : List (List Int)) : Prop where
 le : m <= n
 mn : MnD L m bs' nx'
 zKN : ∀ w,(∀ a ∈ w,a < L) -> zAf bs' nx' 0 w = zAf bs nxt s w
theorem MnD.lt {L m m' : Nat} {bs bs' : List Bool} {nx nx' : List (List Int)} (hL : 0 < L) (hA : MnD L m bs nx) (hB : MnD L m' bs' nx') (h : ∀ w,(∀ a ∈ w,a < L) -> zAf bs nx 0 w = zAf bs' nx' 0 w) :
  ∀ k,k < m -> k < m' /\ ∀ w,(∀ a ∈ w,a < L) -> zAf bs nx k w = zAf bs' nx' k w:=by
 intro k
 induction k using Nat.strongRecOn with
 | _ k ih =>
  intro hk
  by_cases hz : k = 0
  ·subst hz; exact ⟨hB.df.st,h⟩
  have st : ∀ (q x : Nat) w,(∀ a ∈ w,a < L) -> x < L -> q < k -> zAf bs nx (zJ nx q x) w = zAf bs' nx' (zJ nx' q x) w:=fun q x w hw hx hq =>
   (ih q hq (by omega)).2 (x :: w) (fun a ha=>by
    rcases List.mem_cons.1 ha with e | e
    ·omega
    ·exact hw a e)
  obtain ⟨p,p1,p2,p3⟩:=hA.can k (by omega) hk
  have hpm:=Nat.mod_lt p hL
  obtain ⟨j1,-⟩:=ih (p / L) p1 (by omega)
  have hk':=(hB.df.rt.step j1 hpm).1
  have hLE : ∀ w,(∀ a ∈ w,a < L) -> zAf bs nx k w = zAf bs' nx' (zJ nx' (p / L) (p % L)) w:=fun w hw=>by
   have:=st _ _ w hw hpm p1
   rwa [p2] at this
  generalize hg : zJ nx' (p / L) (p % L) = k' at hk' hLE
  rcases Nat.lt_trichotomy k k' with g | g | g
  ·exfalso
   obtain ⟨r,r1,r2,r3⟩:=hB.can k (by omega) (by omega)
   have hrp : r < p:=by
    rcases Nat.lt_trichotomy p r with q | q | q
    ·have:=r3 p q; omega
    ·subst q; omega
    ·exact q
   have hi:=p3 r hrp
   have hrm:=Nat.mod_lt r hL
   obtain ⟨i1,i2⟩:=ih _ hi (by omega)
   have : zJ nx (r / L) (r % L) = k:=hB.dis _ _ i1 (by omega) (fun w hw=>by
    rw [← i2 w hw]
    have:=st _ _ w hw hrm r1
    rwa [r2] at this)
   omega
  ·subst g; exact ⟨hk',hLE⟩
  ·exfalso
   obtain ⟨i1,i2⟩:=ih _ g (by omega)
   have : k = k':=hA.dis _ _ hk (by omega) (fun w hw=>by rw [hLE w hw,i2 w hw])
   omega
theorem MnD.eq {L m m' : Nat} {bs bs' : List Bool} {nx nx' : List (List Int)} (hL : 0 < L) (hA : MnD L m bs nx) (hB : MnD L m' bs' nx') (h : ∀ w,(∀ a ∈ w,a < L) -> zAf bs nx 0 w = zAf bs' nx' 0 w) : m = m' /\ bs = bs' /\ nx = nx':=by
 have h1:=hA.lt hL hB h
 have h2:=hB.lt hL hA (fun w hw=>(h w hw).symm)
 have ha:=hA.df.n1
 have hb:=hB.df.n1
 have hm : m = m':=by
  have g1:=(h1 (m - 1) (by omega)).1
  have g2:=(h2 (m' - 1) (by omega)).1
  omega
 subst hm
 have b1:=hA.df.bl
 have b2:=hB.df.bl
 have n1:=hA.df.nl
 have n2:=hB.df.nl
 refine ⟨rfl,List.ext_getElem (by omega) (fun i hi hi'=>?_),List.ext_getElem (by omega) (fun i hi hi'=>List.ext_getElem ?_ (fun x hx hx'=>?_))⟩
 ·have:=(h1 i (by omega)).2 [] (by simp)
  simpa [zAf,zZ,List.getD_eq_getElem?_getD,hi,hi'] using this
 ·rw [(hA.df.row nx[i] (by simp)).1,(hB.df.row nx'[i] (by simp)).1]
 ·have hxl : x < L:=by have:=(hA.df.row nx[i] (by simp)).1; omega
  have him : i < m:=by omega
  obtain ⟨c1,d1,e1,f1⟩:=hA.df.rt.step him hxl
  obtain ⟨c2,d2,e2,f2⟩:=hB.df.rt.step him hxl
  rw [f1,f2]
  have : zJ nx i x = zJ nx' i x:=hB.dis _ _ c1 c2 (fun w hw=>by
   rw [← (h1 _ c1).2 w hw]
   exact (h1 i him).2 (x :: w) (fun a ha=>by
    rcases List.mem_cons.1 ha with e | e
    ·omega
    ·exact hw a e))
  rw [this]
structure ClG (L n : Nat) (bs : List Bool) (nxt : List (List Int)) (r : Nat -> Nat) : Prop where
 ok : POK r n
 st : ∀ i j,i < n -> j < n -> r i = r j -> bs[i]? = bs[j]? /\ ∀ x,x < L -> r (zJ nxt i x) = r (zJ nxt j x)
 co : ∀ i j,i < n -> j < n -> LQ L bs nxt i j -> r i = r j
structure QuI (L : Nat) (bs : List Bool) (nxt : List (List Int)) (p : Nat -> Nat) (bs' : List Bool) (nx' : List (List Int)) (k : Nat) : Prop where
 bl : bs'.length = cv p k
 nl : nx'.length = cv p k
 cls : ∀ c,c < cv p k -> ∃ q,q < k /\ p q = c /\ bs'[c]? = bs[q]? /\ nx'[c]? = some (tab L fun x=>(p (zJ nxt q x) : Int))
theorem QuI.start {L : Nat} {bs : List Bool} {nxt : List (List Int)} {p : Nat -> Nat} : QuI L bs nxt p [] [] 0:=⟨rfl,rfl,fun c hc=>by simp [cv] at hc⟩
theorem QuI.old {L : Nat} {bs : List Bool} {nxt : List (List Int)} {p : Nat -> Nat} {bs' : List Bool} {nx' : List (List Int)} {k : Nat} (h : QuI L bs nxt p bs' nx' k) (hk : p k ≠ cv p k) : QuI L bs nxt p bs' nx' (k + 1):=by
 have e : cv p (k + 1) = cv p k:=by
  show (if p k = cv p k then cv p k + 1 else cv p k) = _
  rw [if_neg hk]
 exact ⟨by rw [e]; exact h.bl,by rw [e]; exact h.nl,fun c hc=>by
  rw [e] at hc
  obtain ⟨q,h1,h2⟩:=h.cls c hc
  exact ⟨q,by omega,h2⟩⟩
theorem QuI.new {L : Nat} {bs : List Bool} {nxt : List (List Int)} {p : Nat -> Nat} {bs' : List Bool} {nx' : List (List Int)} {k : Nat} {b : Bool} (h : QuI L bs nxt p bs' nx' k) (hk : p k = cv p k) (hb : bs[k]? = some b) : QuI L bs nxt p (bs' ++ [b]) (nx' ++ [tab L fun x=>(p (zJ nxt k x) : Int)]) (k + 1):=by
 have e : cv p (k + 1) = cv p k + 1:=by
  show (if p k = cv p k then cv p k + 1 else cv p k) = _
  rw [if_pos hk]
 refine ⟨by simp [e,h.bl],by simp [e,h.nl],fun c hc=>?_⟩
 by_cases ec : c = cv p k
 ·refine ⟨k,by omega,by omega,?_,?_⟩
  ·rw [hb,List.getElem?_append_right (by rw [h.bl]; omega),h.bl,ec,Nat.sub_self]; rfl
  ·rw [List.getElem?_append_right (by rw [h.nl]; omega),h.nl,ec,Nat.sub_self]; rfl
 ·obtain ⟨q,h1,h2,h3,h4⟩:=h.cls c (by omega)
  refine ⟨q,by omega,h2,?_,?_⟩
  ·rw [List.getElem?_append_left (by rw [h.bl]; omega)]; exact h3
  ·rw [List.getElem?_append_left (by rw [h.nl]; omega)]; exact h4
theorem QuI.fin {L n s : Nat} {bs : List Bool} {nxt : List (List Int)} {p : Nat -> Nat} {bs' : List Bool} {nx' : List (List Int)} (hD : DfL L n s bs nxt) (hC : ClG L n bs nxt p) (h : QuI L bs nxt p bs' nx' n) :
  (∀ q,q < n -> DfL L (cv p n) (p q) bs' nx') /\ ∀ w,(∀ a ∈ w,a < L) -> ∀ q,q < n -> zAf bs' nx' (p q) w = zAf bs nxt q w:=by
 refine ⟨fun q hq=>⟨by have:=hC.ok.lt hq hq; omega,hC.ok.lt hq hq,h.bl,h.nl,fun r hr=>?_⟩,fun w hw q hq=>?_⟩
 ·obtain ⟨j,hj,e⟩:=List.getElem_of_mem hr
  obtain ⟨q',h1,h2,h3,h4⟩:=h.cls j (by have:=h.nl; omega)
  rw [List.getElem?_eq_getElem hj] at h4
  injection h4 with h4
  rw [e] at h4
  subst h4
  refine ⟨by simp,fun v hv=>?_⟩
  simp only [tab,List.mem_map,List.mem_range] at hv
  obtain ⟨x,hx,rfl⟩:=hv
  have:=(hD.rt.step h1 hx).1
  have:=hC.ok.lt this this
  omega
 ·refine zC3 (fun i q=>q < n /\ p q = i) (fun i q e=>?_) (fun i q x e hx=>?_) w hw (p q) q ⟨hq,rfl⟩
  ·obtain ⟨e1,rfl⟩:=e
   obtain ⟨q',h1,h2,h3,h4⟩:=h.cls (p q) (hC.ok.lt e1 e1)
   have:=(hC.st q' q h1 e1 h2).1
   simp only [List.getD_eq_getElem?_getD,h3,this]
  ·obtain ⟨e1,rfl⟩:=e
   obtain ⟨q',h1,h2,h3,h4⟩:=h.cls (p q) (hC.ok.lt e1 e1)
   have h5:=(hC.st q' q h1 e1 h2).2 x hx
   have h6 : zJ nx' (p q) x = p (zJ nxt q' x):=zC1 h4 (zP _ hx)
   exact ⟨(hD.rt.step e1 hx).1,by rw [h6,h5]⟩
theorem QuI.dis {L n s : Nat} {bs : List Bool} {nxt : List (List Int)} {p : Nat -> Nat} {bs' : List Bool} {nx' : List (List Int)} (hD : DfL L n s bs nxt) (hC : ClG L n bs nxt p) (h : QuI L bs nxt p bs' nx' n) : Dis L (cv p n) bs' nx':=fun i j hi hj e=>by
 obtain ⟨q,h1,rfl,-⟩:=h.cls i hi
 obtain ⟨r,h3,rfl,-⟩:=h.cls j hj
 have hl:=(h.fin hD hC).2
 exact hC.co q r h1 h3 (fun w hw=>by rw [← hl w hw q h1,← hl w hw r h3,e w hw])
end Go.Proofs.YtgelfgpcnaeecaaGreatDoor.M
