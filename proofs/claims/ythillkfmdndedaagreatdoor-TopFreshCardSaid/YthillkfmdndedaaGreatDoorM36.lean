/- slices -/
import Derived.Test.YthillkfmdndedaaGreatDoorM13
import Derived.RangeFuncNested
import Derived.RangeFuncBound
import Derived.RangeFuncCalls
import Derived.RangeFuncLeaves
import Derived.Shelf.Abstract
import Derived.Shelf.RegionOpen
import Derived.OwnWalkIn
import Derived.TacticsInMore
import Derived.LoopNIn
import Derived.LoopIn
set_option maxRecDepth 100000
set_option maxHeartbeats 64000000
set_option linter.all false
namespace Go.Proofs.YthillkfmdndedaaGreatDoor
open Go.ChangeShapes Go.WideShapes Go.ChangeAt Go.RowKit Go.Shelf
attribute [local go_sem] Oper.semAt_some
theorem P9{M I:Nat}(h:I+128<=M):M-(intOf (Value.int .i64 (((I+128:Nat):Int)))).toNat<M-(intOf (Value.int .i64 (I:Int))).toNat:=by simp[intOf];omega
theorem DX{P Q:Prop}(h:P->Q)(k:P):Q:=h k
def Fz(b m:Nat)(k:Nat):Array Value:= #[.slice (some ⟨b,m+k*128,none⟩) 128 128]
def Z8(y u:Nat)(W m:World):Prop:=m.cell? ⟨y,0,none⟩=W.cell? ⟨y,0,none⟩/\m.cell? ⟨u,0,none⟩=W.cell? ⟨u,0,none⟩
theorem Yw{N k:Nat}(h:k<N):(List.finRange N).take (k+1)=(List.finRange N).take k++[⟨k,h⟩]:=by
 rw[aai (by simpa using h)];simp
theorem UJ(F:Fence)(n:Nat)(hF:F.fn 159)(Z:F.round=none)(hn:1<=n)(l A B b u c N:Nat)(hN:N<=5000)(hc:N*128<=c)(J Jx:List (Fin N)->World->Prop)(B0:Nat)(hJ:AbidesFrom B0 J)
  (hY:∀m x W,J m W->m.length<N->YieldAt F (n-1) Tryz.prog l (Fz b u x.val) W λ e z=>
   (e= .returned (.bool true)/\J (m++[x]) z/\Z8 A B W z)\/(e= .returned (.bool false)/\Jx (m++[x]) z))
  (W:World)(E:W.cell? ⟨A,0,none⟩=some (.slice (some ⟨b,u,none⟩) (N*128) c))(Q:W.cell? ⟨B,0,none⟩=some (.int .i64 128))(h0:J [] W):
  CallsIn F n Tryz.prog 159 #[.func (.yield l) #[] #[],.pointer (some ⟨A,0,none⟩),.pointer (some ⟨B,0,none⟩)] W λ e z=>(∃v,e= .returned v)/\
   ((∃ys,ys=List.finRange N/\J ys z)\/(∃m,True/\Jx m z)):=by
 refine callsIn_of_wp Tryz.func159 rfl hF ?_ Z;simp only[Tryz.ntmps159,abR,List.length_cons,List.length_nil,Nat.reduceAdd,Nat.reduceSub,Array.replicate_succ,Array.replicate_zero,List.push_toArray,List.append_toArray,List.nil_append,ab2]
 gi_wp2
 obtain⟨M,P⟩:∃M,M=N*128:=⟨_,rfl⟩;rw[<-P]at E hc;have HM:=acp P;have O:N*128<=M:=by omega
 have Q5:M<=640000:=by omega
 have W_:M<=N*128:=by omega
 clear P
 gi_loopw [4] (λ i wr=>∃k:Nat,k<=N/\i= .int .i64 ((k*128:Nat):Int)/\J ((List.finRange N).take k) wr/\wr.cell? ⟨A,0,none⟩=some (.slice (some ⟨b,u,none⟩) M c)/\wr.cell? ⟨B,0,none⟩=some (.int .i64 128))
  (λ i _=>M-(intOf i).toNat)
 case atStart=>exact⟨0,Nat.zero_le _,rfl,by simpa using h0,E,Q⟩
 case round=>
  obtain⟨k,hk,rfl,y,X,U⟩:=hrel;by_cases C:k<N
  ·have G:J ((List.finRange N).take k) wr.drew:=hJ _ _ _ none y ⟨rfl,rfl,rfl,Nat.le_refl _,λ _ _ _=>rfl⟩ (λ r e=>by cases e);obtain⟨fn,ak,assign,body,Y,hR⟩:=hY _ ⟨k,C⟩ wr.drew G (by simp;omega);unfold Fz at Y;dsimp only at Y;obtain⟨I,R⟩:∃I,I=k*128:=⟨_,rfl⟩;rw[<-R]at Y⊢;have HI:=acp R;have e1:wrap64 ((I:Int)+128)=((I+128:Nat):Int):=by unfold wrap64;omega
   have d1:decide ((I:Int)<(M:Int))=true:=aak (by omega);have i0:(0:Int)<=(I:Int):=by omega
   have i1:(I:Int)<=(M:Int):=by omega
   have i2:I<=M:=by omega
   have av:(if ((M-I:Nat):Int)<128 then((M-I:Nat):Int)else 128)=128:=if_neg (by omega);have K:min (128:Int) ((M-I:Nat):Int)=128:=by omega
   have j1:((I+128:Nat):Int)<=(c:Int):=by omega
   have j2:I+128<=c:=by omega
   have q1:wr.drew.cell? ⟨A,0,none⟩=some (.slice (some ⟨b,u,none⟩) M c):=X;have HR:=acp hR;have Kt:I+128<=M:=by omega
   clear R y G hR O Q5 W_
   gi_wp2
   apply DX
   ·intro S
    gi_region
    all_goals exact S
   gi_wp2
   (with_reducible (refine HR.o.mono ?_));rintro e W3 (⟨rfl,V,H⟩|⟨rfl,D⟩)
   ·have q2:W3.cell? ⟨B,0,none⟩=some (.int .i64 128):=H.2.trans U;have q3:W3.cell? ⟨A,0,none⟩=some (.slice (some ⟨b,u,none⟩) M c):=H.1.trans q1
    gi_wp2
    go_roundw
    case rel=>exact⟨k+1,by omega,by have:=HI.o;simp;omega,by rw[Yw C];exact V,q3,q2⟩
    case measure=>
     rw[e1];exact P9 Kt
   ·gi_wp2
    refine aav (results_none rfl _ _ _) rfl ?_;exact⟨⟨_,rfl⟩,.inr ⟨_,trivial,D⟩⟩
  ·obtain rfl:k=N:=by omega
   have d1:decide (((k*128:Nat):Int)<(M:Int))=false:=aad (by omega)
   gi_wp2
   go_end0
   refine⟨⟨_,rfl⟩,.inl ⟨_,rfl,?_⟩⟩
   rwa [List.take_of_length_le (by simp)]at y
end Go.Proofs.YthillkfmdndedaaGreatDoor
namespace Go.Proofs
end Go.Proofs
