/- slices -/
import Derived.Test.YtmflaonodghbcaaGreatDoorM13
import Derived.RangeFuncNested
import Derived.RangeFuncBound
import Derived.RangeFuncCalls
import Derived.RangeFuncLeaves
import Derived.Shelf.Abstract
import Derived.Shelf.RegionOpen
import Derived.WalkKit
import Derived.OwnWalkIn
import Derived.TacticsInMore
import Derived.LoopNIn
import Derived.LoopIn
set_option maxRecDepth 100000
set_option maxHeartbeats 64000000
set_option linter.all false
namespace Go.Proofs.YtmflaonodghbcaaGreatDoor
open Go.ChangeShapes Go.WideShapes Go.ChangeAt Go.RowKit Go.Shelf
attribute [local go_sem] Oper.semAt_some
theorem OH{M I:Nat}(h:I+128≤M):M-(intOf (Value.int .i64 (((I+128:Nat):Int)))).toNat<M-(intOf (Value.int .i64 (I:Int))).toNat:=by simp[intOf];omega
theorem Di{P Q:Prop}(h:P→Q)(k:P):Q:=h k
def EU(b off:Nat)(k:Nat):Array Value:= #[.slice (some ⟨b,off+k*128,none⟩) 128 128]
def YO(Bs Bn:Nat)(W W':World):Prop:=W'.cell? ⟨Bs,0,none⟩=W.cell? ⟨Bs,0,none⟩∧W'.cell? ⟨Bn,0,none⟩=W.cell? ⟨Bn,0,none⟩
theorem WW{N k:Nat}(h:k<N):(List.finRange N).take (k+1)=(List.finRange N).take k++[⟨k,h⟩]:=by
 rw[aai (by simpa using h)];simp
theorem Tj(F:Fence)(n:Nat)(hF:F.fn 171)(hro:F.round=none)(hn:1≤n)(l Bs Bn b off c N:Nat)(hN:N≤5000)(hc:N*128≤c)(J Jx:List (Fin N)→World→Prop)(B0:Nat)(hJ:AbidesFrom B0 J)
  (hY:∀pre x W,J pre W→pre.length<N→YieldAt F (n-1) Tryz.prog l (EU b off x.val) W fun e W'=>
   (e= .returned (.bool true)∧J (pre++[x]) W'∧YO Bs Bn W W')∨(e= .returned (.bool false)∧Jx (pre++[x]) W'))
  (W:World) (hBs:W.cell? ⟨Bs,0,none⟩=some (.slice (some ⟨b,off,none⟩) (N*128) c)) (hBn:W.cell? ⟨Bn,0,none⟩=some (.int .i64 128)) (h0:J [] W):
  CallsIn F n Tryz.prog 171 #[.func (.yield l) #[] #[],.pointer (some ⟨Bs,0,none⟩),.pointer (some ⟨Bn,0,none⟩)] W fun e W'=>(∃v,e= .returned v)∧
   ((∃ys,ys=List.finRange N∧J ys W')∨(∃pre,True∧Jx pre W')):=by
 refine callsIn_of_wp Tryz.func171 rfl hF ?_ hro;simp only[Tryz.ntmps171,List.size_toArray,List.length_cons,List.length_nil,Nat.reduceAdd,Nat.reduceSub,Array.replicate_succ,Array.replicate_zero,List.push_toArray,List.append_toArray,List.nil_append,abR]
 gi_wp2
 obtain⟨M,hM⟩:∃M,M=N*128:=⟨_,rfl⟩;rw[←hM]at hBs hc;have HM:=ab9 hM;have hM9:N*128≤M:=by omega
 have hM8:M≤640000:=by omega
 have hM7:M≤N*128:=by omega
 clear hM
 gi_loopw [4] (fun i wr=>∃k:Nat,k≤N∧i= .int .i64 ((k*128:Nat):Int)∧J ((List.finRange N).take k) wr∧wr.cell? ⟨Bs,0,none⟩=some (.slice (some ⟨b,off,none⟩) M c)∧wr.cell? ⟨Bn,0,none⟩=some (.int .i64 128))
  (fun i _=>M-(intOf i).toNat)
 case atStart=>exact⟨0,Nat.zero_le _,rfl,by simpa using h0,hBs,hBn⟩
 case round=>
  obtain⟨k,hk,rfl,hJs,hcs,hcn⟩:=hrel;by_cases hlt:k<N
  ·have hJd:J ((List.finRange N).take k) wr.drew:=hJ _ _ _ none hJs ⟨rfl,rfl,rfl,Nat.le_refl _,fun _ _ _=>rfl⟩ (fun r e=>by cases e);obtain⟨fn,tmps,assign,body,hy,hR⟩:=hY _ ⟨k,hlt⟩ wr.drew hJd (by simp;omega);unfold EU at hy;dsimp only at hy;obtain⟨I,hI⟩:∃I,I=k*128:=⟨_,rfl⟩;rw[←hI]at hy⊢;have HI:=ab9 hI;have e1:wrap64 ((I:Int)+128)=((I+128:Nat):Int):=by unfold wrap64;omega
   have d1:decide ((I:Int)<(M:Int))=true:=aal (by omega);have i0:(0:Int)≤(I:Int):=by omega
   have i1:(I:Int)≤(M:Int):=by omega
   have i2:I≤M:=by omega
   have hmin:(if ((M-I:Nat):Int)<128 then((M-I:Nat):Int)else 128)=128:=if_neg (by omega);have j1:((I+128:Nat):Int)≤(c:Int):=by omega
   have hmin2:min (128:Int) ((M-I:Nat):Int)=128:=by omega
   have j2:I+128≤c:=by omega
   have q1:wr.drew.cell? ⟨Bs,0,none⟩=some (.slice (some ⟨b,off,none⟩) M c):=hcs;have HR:=ab9 hR;have ZT:I+128≤M:=by omega
   clear hI hJs hJd hR hM9 hM8 hM7
   gi_wp2
   apply Di
   ·intro key
    gi_region
    all_goals exact key
   gi_wp2
   (with_reducible (refine HR.o.mono ?_));rintro e W3 (⟨rfl,hJ3,hk3⟩|⟨rfl,hJx3⟩)
   ·have q2:W3.cell? ⟨Bn,0,none⟩=some (.int .i64 128):=hk3.2.trans hcn;have q3:W3.cell? ⟨Bs,0,none⟩=some (.slice (some ⟨b,off,none⟩) M c):=hk3.1.trans q1
    gi_wp2
    go_roundw
    case rel=>exact⟨k+1,by omega,by have:=HI.o;simp;omega,by rw[WW hlt];exact hJ3,q3,q2⟩
    case measure=>
     rw[e1];exact OH ZT
   ·gi_wp2
    refine aap (results_none rfl _ _ _) rfl ?_;exact⟨⟨_,rfl⟩,.inr ⟨_,trivial,hJx3⟩⟩
  ·obtain rfl:k=N:=by omega
   have d1:decide (((k*128:Nat):Int)<(M:Int))=false:=aaf (by omega)
   gi_wp2
   go_end0
   refine⟨⟨_,rfl⟩,.inl ⟨_,rfl,?_⟩⟩
   rwa [List.take_of_length_le (by simp)]at hJs
end Go.Proofs.YtmflaonodghbcaaGreatDoor
