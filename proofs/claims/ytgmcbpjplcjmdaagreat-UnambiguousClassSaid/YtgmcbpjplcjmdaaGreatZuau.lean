/- Lemmas for the law unambiguousClass. No conditions. -/
import Derived.Test.YtgmcbpjplcjmdaaGreatZuac
set_option linter.all false
namespace Go.Proofs.YtgmcbpjplcjmdaaGreat.M
open Go.RowKit
set_option maxRecDepth 100000
set_option maxHeartbeats 32000000
variable{P:Program}
theorem zFF{ops:Array Oper}{N:Nat}{r0:List Oper}: ∀(l:List Oper) (k:Nat) (σ:ASt) (K:ASt->Prop),awpL P ops N l k σ K-> ∃σ',K { σ' with nxt:=N+(k+1000000*l.length) }/\ ∀w0 V S0 gv a w,zEN w0 V S0 gv (fun j=>j<N+k) σ a w-> ∀(Q:Exit->Act->World->Prop),(∀a' w',zEN w0 V S0 gv (fun j=>j<N+(k+1000000*l.length)) σ' a' w'->wpList P ops Q r0 a' w')->wpList P ops Q (l++r0) a w
 |[],k,σ,K,h=>⟨σ,by simpa[awpL]using h,fun w0 V S0 gv a w hR Q hQ=>hQ a w (by simpa using hR)⟩
 |o::r,k,σ,K,h=>by
  obtain⟨σ1,h1,-,h2⟩:=zFD h;obtain⟨σ',h3,h4⟩:=zFF (r0:=r0) r (k+1000000) σ1 K h2;refine⟨σ',by rw[List.length_cons,show k+1000000*(r.length+1)=k+1000000+1000000*r.length by omega];exact h3,fun w0 V S0 gv a w hR Q hQ=>?_⟩;refine wpList_step fun K' hK'=>h1 w0 V S0 gv _ a w hR (fun j h1 h2=>by omega) K' Q (fun a' w' hR'=>hK' a' w' (h4 w0 V S0 gv a' w' ?_ Q (fun a2 w2 hR2=>hQ a2 w2 ?_)))
  ·have e:(fun j=>j<N+k\/(N+k<=j/\j<N+k+1000000))=(fun j=>j<N+(k+1000000)):=by funext j;apply propext;omega
   rw[←e];exact hR'
  ·rw[List.length_cons,show k+1000000*(r.length+1)=k+1000000+1000000*r.length by omega];exact hR2
theorem zIs{σ:ASt}{Q:Exit->ASt->Prop}{id:Nat}{ops:Array Oper}(n:Nat)(h:awpL P ops σ.nxt (ops.toList.take n) 0 σ (fun σ1=>∃σ2,Wk σ1 σ2/\awpL P ops σ2.nxt (ops.toList.drop n) 0 σ2 (Q .normal))):awp P (.region id ops false) Q σ:=by
 obtain⟨σ',⟨σ2,hw,h1⟩,h2⟩:=zFF (r0:=ops.toList.drop n) _ _ _ _ h;obtain⟨σ3,h3,h4⟩:=zCA _ _ _ _ h1;refine⟨.normal,_,?_,h3⟩;intro w0 V S0 gv a w hR;refine wp_region_list ?_;have hq: ∀Q:Exit->Act->World->Prop,wpList P ops Q (ops.toList.take n++ops.toList.drop n) a w->wpList P ops Q ops.toList a w:=fun Q h=>by rwa [List.take_append_drop]at h
 refine hq _ ?_;refine h2 w0 V S0 gv a w (by rw[Nat.add_zero];exact hR) _ (fun a' w' hR'=>?_);have hR2:=hw w0 V S0 gv a' w' hR';exact h4 w0 V S0 gv a' w' (by rw[Nat.add_zero];exact hR2) _ (fun a2 w2 hR2=>⟨rfl,hR2⟩)
theorem zOT{Q:Exit->ASt->Prop}{σ:ASt}{id:Nat}{ops:Array Oper}{y:Code}(n:Nat)(h: ∀K1:ASt->Prop,(∀σ1,(∃σ2,Wk σ1 σ2/\ ∀K:ASt->Prop,(∀σ',awp P y Q σ'->K σ')->awpL P ops σ2.nxt (ops.toList.drop n) 0 σ2 K)->K1 σ1)->awpL P ops σ.nxt (ops.toList.take n) 0 σ K1):awp P (.seq (.region id ops false) y) Q σ:=by
 refine zA (zIs n (h _ ?_));rintro σ1 ⟨σ2,h1,h2⟩;exact⟨σ2,h1,h2 _ (fun σ' h=>h)⟩
variable{P:Program}
def LW(P:Program)(ops:Array Oper)(l:List Oper)(σ:ASt)(Q:ASt->Prop):Prop:=∃σ',Q σ'/\ ∀w0 V S0 gv a w,Rel w0 V S0 gv σ a w-> ∀Qe:Exit->Act->World->Prop,(∀a' w',Rel w0 V S0 gv σ' a' w'->Qe .normal a' w')->wpList P ops Qe l a w
theorem zTx{ops:Array Oper}{l:List Oper}{σ:ASt}{Q:ASt->Prop}(h: ∀K:ASt->Prop,(∀σ',Q σ'->K σ')->awpL P ops σ.nxt l 0 σ K):LW P ops l σ Q:=by
 obtain⟨σ3,h3,h4⟩:=zCA _ _ _ _ (h Q fun _ h=>h);exact⟨_,h3,fun w0 V S0 gv a w hR Qe hQ=>h4 w0 V S0 gv a w (by rw[Nat.add_zero];exact hR) _ (fun a2 w2 hR2=>hQ a2 w2 hR2)⟩
theorem zKy{ops:Array Oper}{l:List Oper}{σ:ASt}{Q:ASt->Prop}(n:Nat)(h: ∀K1:ASt->Prop,(∀σ1,(∃σ2,Wk σ1 σ2/\LW P ops (l.drop n) σ2 Q)->K1 σ1)->awpL P ops σ.nxt (l.take n) 0 σ K1):LW P ops l σ Q:=by
 obtain⟨σ',⟨σ2,hw,σ3,h3,h4⟩,h2⟩:=zFF (r0:=l.drop n) _ _ _ _ (h _ fun _ h=>h);refine⟨σ3,h3,fun w0 V S0 gv a w hR Qe hQ=>?_⟩;have hq:wpList P ops Qe (l.take n++l.drop n) a w->wpList P ops Qe l a w:=fun h=>by rwa [List.take_append_drop]at h
 refine hq (h2 w0 V S0 gv a w (by rw[Nat.add_zero];exact hR) _ (fun a' w' hR'=>?_));have hR2:=hw w0 V S0 gv a' w' hR';exact h4 w0 V S0 gv a' w' hR2 _ hQ
theorem zP8{Q:Exit->ASt->Prop}{σ:ASt}{id:Nat}{ops:Array Oper}{y:Code}(h:LW P ops ops.toList σ (awp P y Q)):awp P (.seq (.region id ops false) y) Q σ:=by
 obtain⟨σ3,h3,h4⟩:=h;refine zA ⟨.normal,σ3,?_,h3⟩;intro w0 V S0 gv a w hR;refine wp_region_list ?_;exact h4 w0 V S0 gv a w hR _ (fun a2 w2 hR2=>⟨rfl,hR2⟩)
