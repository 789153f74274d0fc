/- Lemmas for the law AperiodicMember. No conditions. -/
import Derived.Test.YtjkeafkjjaploaaGreatZqax
set_option linter.all false
namespace Go.Proofs.YtjkeafkjjaploaaGreat.M
open Go.RowKit
set_option maxRecDepth 100000
set_option maxHeartbeats 32000000

theorem zKf(x:Int):FnA Tryz.prog 108 [.t 2 (.int .i64 x)] (.t 2 (.bool false)):=by
 refine fI 6 #[.tmp 2] Tryz.func108 rfl ?_;refine rg0 ?_;refine rg0 ?_;exact zI rt0
def zHp(x y:Int):Int:=if x<y then -1 else if y<x then 1 else 0
theorem zFs(x y:Int):FnA Tryz.prog 68 [.t 2 (.int .i64 x),.t 2 (.int .i64 y)] (.t 2 (.int .i64 (zHp x y))):=by
 refine fI 20 #[.tmp 4] Tryz.func68 rfl ?_;refine rg0 ?_;refine rc0 (zKf x) ?_;refine rc0 (zKf y) ?_;refine zD ?_;refine rg0 ?_;refine cS0 ?_;refine zD ?_;refine rg0 ?_;refine cS0 ?_;refine zD ?_;by_cases h1:x<y
 ·have e:zHp x y= -1:=by simp[zHp,h1]
  refine rg1 @h1 ?_;refine cT1 @h1 ?_;refine rg0 ?_;exact zI (rt1 @e)
 ·refine rg1 @h1 ?_;refine cS1 @h1 ?_;refine zD ?_;by_cases h2:y<x
  ·have e:zHp x y=1:=by simp[zHp,h1,h2]
   refine rg1 @h2 ?_;refine cT1 @h2 ?_;refine rg0 ?_;exact zI (rt1 @e)
  ·have e:zHp x y=0:=by simp[zHp,h1,h2]
   refine rg1 @h2 ?_;refine cS1 @h2 ?_;refine rg0 ?_;exact zI (rt1 @e)
def orL:List Int->Int
 |[]=>0
 |a::r=>if a=0 then orL r else a
theorem zRP{xs:List Int}{i:Nat}(hi:i<xs.length)(h:orL xs=orL (xs.drop i)):orL xs=if xs[i]=0 then orL (xs.drop (i+1))else xs[i]:=by
 rw[h,List.drop_eq_getElem_cons hi,orL]
theorem zWN(xs:List Int)(hl:xs.length<=1000):FnA Tryz.prog 67 [.t 0 (ints xs)] (.t 2 (.int .i64 (orL xs))):=by
 refine fI 18 #[.tmp 2] Tryz.func67 rfl ?_;refine rg0 ?_;refine rg0 ?_;refine zD ?_;refine rg0 ?_;refine zG ?_;refine awp_loop (fun i:Nat=>mkS [(3,.t 2 (.int .i64 0)),(6,.t 0 (ints xs)),(7,.t 2 (.int .i64 xs.length)),(8,.t 2 (.int .i64 i))] [] 0 18 [.any]) (fun i=>i<=xs.length/\orL xs=orL (xs.drop i)) (fun i=>xs.length-i) ?_ ?_
 ·refine⟨0,⟨by omega,by simp⟩,?_⟩;exact kw0 []
 rintro i ⟨hi,ho⟩;refine rg0 ?_;refine zD ?_;by_cases hil:i<xs.length
 ·have ho2:=zRP hil ho;refine cK1 @hil ?_;refine zD ?_;refine zG ?_;refine rg1 @hil ?_;by_cases hz:xs[i]=0
  ·rw[if_pos hz]at ho2;refine rg1 @hz ?_;refine cY1 @hz ?_;refine rr0 ?_;refine⟨i+1,⟨by omega,ho2⟩,by omega,?_⟩;exact kw0 []
  ·rw[if_neg hz]at ho2;have hzb:(xs[i] !=0)=true:=bne_iff_ne.2 hz;refine rg1 @hzb ?_;refine cT1 @hz ?_;refine rg0 ?_;exact zI (rt1 @ho2)
 ·have hn:orL xs=0:=by rw[ho,List.drop_of_length_le (by omega)];rfl
  refine cF1 @hil ?_;refine zK ?_;refine rg0 ?_;exact zI (rt1 @hn)
