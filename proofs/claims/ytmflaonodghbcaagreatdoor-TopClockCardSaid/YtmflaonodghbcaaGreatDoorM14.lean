/- tree -/
import Derived.Test.YtmflaonodghbcaaGreatDoorM13
set_option maxRecDepth 100000
set_option maxHeartbeats 64000000
set_option linter.all false
namespace Go.Proofs.YtmflaonodghbcaaGreatDoor
open Go.ChangeShapes Go.WideShapes Go.ChangeAt Go.RowKit
def newG(B b:Nat):Own:=if b=B then .items else if b=B+1 then .item 0 else if b=B+2 then .names 0 else .none
theorem Zc{w w1 w2:World}(hi:iV (fun _=>False) w1 0 (w.heap.size+1) (w.heap.size+1+1) (dQ 2))(hb:Below (w.heap.size+1) (w.alloc (.map #[] 0)) w1)(hs:w.heap.size+1+1<w1.heap.size)
  (hM:MapAt aU w2 w.heap.size (bX aU.lt 0 (ptr (w.heap.size+1)) []))(hT:w1.mapTurned w2 w.heap.size):
  aM (fun b=>if b=w2.heap.size then .head else newG w.heap.size b) (fun _=>False) (w2.alloc (.cells #[.map (some w.heap.size)] 188)) w2.heap.size w.heap.size (fun _=>w.heap.size+1) (fun _=>w.heap.size+2) yT∧Below w.heap.size w (w2.alloc (.cells #[.map (some w.heap.size)] 188)):=by
 have hsz:=fI hT;have hK:=gD hT;have hw3:∀b,b<w2.heap.size→(w2.alloc (.cells #[.map (some w.heap.size)] 188)).heap[b]? =w2.heap[b]? :=fun b hb=>Below.heap_alloc _ _ _ hb;have hget:∀k x,aj k yT=some x→k=0∧x=dQ 2:=fun k x h=>by
  unfold yT at h;rw[fD]at h;by_cases hk:(0:Int)=k
  ·rw[if_pos hk]at h;exact⟨hk.symm,by cases h;rfl⟩
  ·rw[if_neg hk]at h;cases h
 have hB0:Below w.heap.size w (w.alloc (.map #[] 0)):=wall w _;constructor
 ·refine⟨(MapKept.heap_alloc w2 _).1,?_,fun k x hx=> ?_,by simp,?_,fun k x hx=> ?_,fun k x hx _=> ?_,fun _ h=>h.elim,fun b hb=> ?_,fun _ h=>h.elim⟩
  ·have:=hM.kept (hw3 _ (by omega));exact this
  ·obtain⟨rfl,rfl⟩:=hget k x hx;refine hi.move (by simp;omega) ?_ (fun _=> ?_) (fun _ h=>h.elim)
   ·rw[hw3 _ (by omega),hK.block _ (by omega) (by omega)]
   ·rw[hw3 _ (by omega),hK.block _ (by omega) (by omega)]
  ·rw[if_neg (by omega)];simp[newG]
  ·obtain⟨rfl,rfl⟩:=hget k x hx;rw[if_neg (by omega)];simp[newG]
  ·obtain⟨rfl,rfl⟩:=hget k x hx;rw[if_neg (by omega)];simp[newG]
  ·rw[Pd];by_cases h1:b=w2.heap.size
   ·omega
   ·rw[if_neg h1]at hb;unfold newG at hb;by_cases h2:b=w.heap.size
    ·omega
    ·by_cases h3:b=w.heap.size+1
     ·omega
     ·by_cases h4:b=w.heap.size+2
      ·omega
      ·simp[h2,h3,h4]at hb
 ·refine(hB0.trans (hb.mono (by omega))).trans ⟨hK.os,hK.tape,hK.output,by rw[Pd];omega,fun b hbw=> ?_⟩;have:=hb.size;rw[Pd]at this;rw[hw3 _ (by omega),hK.block _ (by omega) (by omega)]
theorem Zd(w:World):Calls Tryz.prog 102 #[] w fun e w'=>∃g mb ib nb p,e= .returned (ptr p)∧aM g (fun _=>False) w' p mb ib nb yT∧(∀b,g b≠ .none→w.heap.size≤b)∧Below w.heap.size w w':=by
 have hmm:= @abT Tryz.prog;have HST:acd (∀w1,Below (w.heap.size+1) (w.alloc (.map #[] 0)) w1→∃w2,(Instr.mapUpdate 186 (.map (some w.heap.size)) (.int .i64 0) (ptr (w.heap.size+1))).run Tryz.prog w1= .ok () w2∧MapAt aU w2 w.heap.size (bX aU.lt 0 (ptr (w.heap.size+1)) [])∧w1.mapTurned w2 w.heap.size):=fun w1 hb=>by
  have hm1:MapAt aU w1 w.heap.size []:=(MapAt.made (F:=aU) w).kept (hb.block _ (by omega));exact hm1.oZ aU Tryz.underlying186 (by show 0<maxLen;unfold maxLen;omega) 0 _ (mg (by omega) (by omega))
 go_enter Tryz.func102,Tryz.ntmps102;go_wp2_with fail;refine(Ar _ _ _).mono ?_;rintro e w1 ⟨rfl,hi1,hb1,hs1,hs2⟩;rw[Pd]at hi1 hb1 hs1 hs2;obtain⟨w2,U_,hM2,BM⟩:=HST.o w1 hb1;have HI1:=ab9 hi1;have HB1:=ab9 hb1;have pX:=ab9 hM2;have HT2:=ab9 BM;have hs3:=hs2 rfl;clear hi1 hb1 hM2 BM hs2;go_wp2_with fail;go_ret;obtain⟨h1,h2⟩:=Zc HI1.o HB1.o hs3 pX.o HT2.o;refine⟨_,_,_,_,_,rfl,h1,fun b hb=> ?_,h2⟩;have h3:=HB1.o.size;rw[Pd]at h3;have h4:=fI HT2.o;by_cases e1:b=w2.heap.size
 ·omega
 ·rw[if_neg e1]at hb;unfold newG at hb;by_cases e2:b=w.heap.size
  ·omega
  ·by_cases e3:b=w.heap.size+1
   ·omega
   ·by_cases e4:b=w.heap.size+2
    ·omega
    ·simp[e2,e3,e4]at hb
theorem Ze:fu yT:=by
 have hget:∀k x,aj k yT=some x→k=0∧x=dQ 2:=fun k x h=>by
  unfold yT at h;rw[fD]at h;by_cases hk:(0:Int)=k
  ·rw[if_pos hk]at h;exact⟨hk.symm,by cases h;rfl⟩
  ·rw[if_neg hk]at h;cases h
 refine⟨⟨by simp[yT,aO],rfl,fun k x hx=> ?_,fun k x hx e he=> ?_,by simp[yT],fun k x hx=> ?_⟩,fun k x hx hk=> ?_⟩
 ·obtain⟨rfl,rfl⟩:=hget k x hx;exact GQ (.inr rfl)
 ·obtain⟨rfl,rfl⟩:=hget k x hx;cases he
 ·obtain⟨rfl,rfl⟩:=hget k x hx;omega
 ·exact absurd (hget k x hx).1 hk
section
variable{g:Nat→Own}{D:Nat→Prop}{p mb:Nat}{ib nb:Int→Nat}{T:aI}
theorem Va(id:Int)(hd:kC T id≠0)(w:World)(h:aM g D w p mb ib nb T)(hid:(Lit.int .i64 id).wf=true):
  Calls Tryz.prog 178 #[ptr p,.int .i64 id] w (Turn g D w p mb (eU T id).2 (.int .i64 (eU T id).1)):=by
 have HH:=ab9 h;have hcb:(w.alloc (.cells #[.int .i64 id] 3)).cell? ⟨w.heap.size,0,none⟩=some (.int .i64 id):=lq;have hA:=h.below (wall w (.cells #[.int .i64 id] 3)) ace;by_cases hf:jr T id=0
 ·obtain⟨x,hx,hk⟩:=xX hf;have HF:=ab9 (CU id hx hk _ hA hid);obtain⟨c0,c1,c2,c3,c4,c5,c7,hiw⟩:=(h.item id x hx).cell;have hE:kC T id=if x.closed then 27 else 0:=by unfold kC;rw[hx];simp only[if_neg hk]
  cases hcl:x.closed with
  |false=>exact absurd (by rw[hE,hcl];rfl) hd
  |true=>
   have HM:acd (eU T id=(27,T)):=by
    unfold eU;rw[hE,hcl];simp only[if_pos];exact rfl
   rw[hcl]at c5;clear hE hcl hx hk hf h c7 hA hd;go_enter Tryz.func178,Tryz.ntmps178;go_wp2_with fail;refine HF.o.mono ?_;rintro e w1 ⟨rfl,rfl⟩;go_wp2_with fail;go_ret;rw[HM.o];exact Turn.same HH.o (wall w _) rfl
 ·have hne:(jr T id==0)=false:=by simpa using hf
  have HF:=ab9 (DU id _ rfl hf _ hA hid);have HM:acd (eU T id=(jr T id,T)):=by
   unfold eU;rw[RH hf,if_neg hf];exact rfl
  obtain⟨k,hk⟩:∃k,k=jr T id:=⟨_,rfl⟩;rw[←hk]at HF hne HM;clear hf h hk hA hd;go_enter Tryz.func178,Tryz.ntmps178;go_wp2_with fail;refine HF.o.mono ?_;rintro e w1 ⟨rfl,rfl⟩;go_wp2_with fail;go_ret;rw[HM.o];exact Turn.same HH.o (wall w _) rfl
end
section
variable{g:Nat→Own}{D:Nat→Prop}{p mb:Nat}{ib nb:Int→Nat}{T:aI}
theorem eP{id:Int}{x:eG}(hx:aj id T=some x):bD T id=x.kind:=by unfold bD;rw[hx]
theorem fu.link(h:fu T){d id:Int}{x y:eG}{n:Nm}(hx:aj d T=some x)(hxk:x.kind=2)(hn:dO n=true)(hnn:aj n x.names=none)(hy:aj id T=some y)(hyk:y.kind≠2)(hl:y.links<64)(h0:id≠0):
  fu (Go.Proofs.YtmflaonodghbcaaGreatDoor.cu id (fun x=>{x with links:=x.links+1}) (setName T d n id)):=by
 have hdi:id≠d:=fun e=>by subst e;rw[hx]at hy;cases hy;exact hyk hxk
 have hP:=h.toCw.set (n:=n) (id:=id) hx hxk hn ⟨by rw[hy];rfl,h0⟩;have hy1:aj id (setName T d n id)=some y:=by unfold setName;rw[bF,if_neg hdi];exact hy
 have hoy:=h.each id y hy;have hk1:y.kind=1:=hoy.kind.resolve_right hyk;have hsame:cn id {y with links:=y.links+1}=cn id y:=rfl;refine⟨hP.cu (f:=fun x=>{x with links:=x.links+1}) hy1 ⟨hoy.kind,hoy.file,fun h=>absurd h hyk,fun h=> ?_,hoy.sorted,hoy.good,hoy.size,?_,hoy.aT⟩ rfl (hP.leads id y hy1),fun j z hz hj=> ?_⟩
 ·have:=hoy.links;have h2:y.links+1=0:=h;omega
 ·have:=hoy.links;simp only;omega
 ·have h1:=mY hP.sorted (fun x=>{x with links:=x.links+1}) hy1 j;have h1':cn j {y with links:=y.links+1}=cn j y:=rfl;have h2:=mY h.sorted (fun x=>{x with names:=bX bytesBefore n id x.names}) hx j;have h3:=Nc (id:=id) hnn j;have e:fF (Go.Proofs.YtmflaonodghbcaaGreatDoor.cu id (fun x=>{x with links:=x.links+1}) (setName T d n id)) j=fF T j+if id=j then 1 else 0:=by
   unfold setName at h1⊢;rw[h1']at h1;omega
  rw[e];rw[bF]at hz;by_cases hji:j=id
  ·subst hji;rw[if_pos rfl,hy1]at hz;simp only[aam,aag]at hz;rw[←hz,if_pos rfl];have:=h.counts j y hy hj;simp only;omega
  ·rw[if_neg hji]at hz;rw[if_neg (aaP hji)];unfold setName at hz;rw[bF]at hz;by_cases hjd:j=d
   ·subst hjd;rw[if_pos rfl,hx]at hz;simp only[aam,aag]at hz;have:=h.counts j x hx hj;rw[←hz];simp only;omega
   ·rw[if_neg hjd]at hz;have:=h.counts j z hz hj;omega
theorem D6{p:List Nm}{id:Int}(h:aG T 0 p=(id,0))(hT:fu T):(aj id T).isSome=true:=by
 have:=lI hT p 0 (kY hT) (by rw[h]);rw[h]at this;exact this
end
theorem fu.del{T:aI}(h:fu T){k:Int}{x:eG}(hx:aj k T=some x)(h0:k≠0)(hn:x.names=[])(hc:fF T k=0):fu (bM k T):=by
 have hget:∀j y,aj j (bM k T)=some y→j≠k∧aj j T=some y:=fun j y hy=>by
  rw[eZ]at hy;by_cases hj:j=k
  ·rw[if_pos hj]at hy;cases hy
  ·rw[if_neg hj]at hy;exact⟨hj,hy⟩
 have hcn:∀j,cn j x=0:=fun j=>by unfold cn;rw[hn];rfl
 refine⟨⟨h.sorted.bM _,?_,fun j y hy=>h.each j y (hget j y hy).2,fun j y hy e he=> ?_,?_,fun j y hy=>h.ids j y (hget j y hy).2⟩,fun j y hy hj=> ?_⟩
 ·have hr:=h.root;unfold bD at hr⊢;rw[eZ,if_neg (aaP h0)];exact hr
 ·have h1:=h.leads j y (hget j y hy).2 e he;have h2:=CS hc (hget j y hy).2 e he;rw[eZ,if_neg h2];exact h1
 ·have:=uV dU h.sorted hx;have:=h.len;omega
 ·have h1:=Au h.sorted hx j;rw[hcn]at h1;have h2:=h.counts j y (hget j y hy).2 hj;omega
theorem fu.settle{T:aI}(h:fu T){k:Int}(hk:k≠0)(hf:∀x,aj k T=some x→x.kind≠2):fu (gX T k):=by
 unfold gX;cases hx:aj k T with
 |none=>exact h
 |some x=>
  simp only;by_cases hc:x.links=0∧x.closed=true
  ·rw[if_pos hc];have hk1:=(h.each k x hx).kind.resolve_right (hf x hx);refine h.del hx hk ((h.each k x hx).file hk1) ?_;have:=h.counts k x hx hk;omega
  ·rw[if_neg hc];exact h
theorem fu.zn{T:aI}(h:fu T){k:Int}{x:eG}(hx:aj k T=some x)(hk:x.kind≠2):k≠0:=by
 rintro rfl;have:=h.root;unfold bD at this;rw[hx]at this;exact hk this
theorem D7{T:aI}(hT:fu T){ls:List Nm}{kind:Int}(h:nQ T ls kind=0):bS ls=0∧(kind=1∨kind=2)∧(aQ T ls).2.2=0∧aj (aQ T ls).2.1 (aX T (aQ T ls).1)=none∧T.length<64:=by
 unfold nQ at h;by_cases h1:bS ls≠0
 ·rw[if_pos h1]at h;exact absurd h h1
 ·rw[if_neg h1]at h;by_cases h2:¬(kind=1∨kind=2)
  ·rw[if_pos h2]at h;cases h
  ·rw[if_neg h2]at h;by_cases h3:(aQ T ls).2.2≠0
   ·rw[if_pos h3]at h;exact absurd h h3
   ·rw[if_neg h3]at h;by_cases h4:(aj (aQ T ls).2.1 (aX T (aQ T ls).1)).isSome=true
    ·rw[if_pos h4]at h;cases h
    ·rw[if_neg h4]at h;by_cases h5:64≤T.length
     ·rw[if_pos h5]at h;cases h
     ·exact⟨by omega,Decidable.not_not.1 h2,by omega,by simpa using h4,by omega⟩
theorem fu.dF{T:aI}(h:fu T)(ls:List Nm)(kind:Int):fu (dF T ls kind).2:=by
 unfold Go.Proofs.YtmflaonodghbcaaGreatDoor.dF;by_cases he:nQ T ls kind=0
 ·rw[if_pos he];obtain⟨h1,h2,h3,h4,h5⟩:=D7 h he;obtain⟨x,hx,hk,hm⟩:=nR h h3;obtain⟨f,hf,hf1,hf2,hfn,_⟩:=h.free;have e1:aX T (aQ T ls).1=x.names:=by unfold aX;rw[hx]
  rw[e1]at h4;have hlen:=h.len;show fu (xS T ls kind);unfold xS;rw[hf];exact h.make h2 hfn (by omega) (by omega) h5 hx hk (pU h1 _ hm) h4
 ·rw[if_neg he];exact h
theorem fu.dG{T:aI}(h:fu T)(id:Int)(b:List UInt8):fu (dG T id b).2:=by
 unfold Go.Proofs.YtmflaonodghbcaaGreatDoor.dG;by_cases he:qI T id b=0
 ·simp only[if_pos he];unfold qI at he;cases hx:aj id T with
  |none=>rw[hx]at he;cases he
  |some x=>
   rw[hx]at he;simp only at he;by_cases hk:x.kind=2
   ·rw[if_pos hk]at he;cases he
   ·rw[if_neg hk]at he;cases hc:x.closed with
    |true=>rw[hc]at he;cases he
    |false=>
     rw[hc]at he;simp only[aa3,if_false]at he;by_cases hb:4096<x.b.length+b.length
     ·rw[if_pos hb]at he;cases he
     ·have ho:=h.each id x hx;exact h.Av hx ⟨ho.kind,ho.file,fun h=>absurd h hk,fun _=>hc,ho.sorted,ho.good,by rw[List.length_append];omega,ho.links,ho.aT⟩ rfl rfl rfl
 ·simp only[if_neg he];exact h
theorem fu.fZ{T:aI}(h:fu T)(id aT:Int)(h0:0≤aT):fu (fZ T id aT).2:=by
 unfold Go.Proofs.YtmflaonodghbcaaGreatDoor.fZ;by_cases he:BK T id aT=0
 ·simp only[if_pos he];unfold BK at he;cases hx:aj id T with
  |none=>rw[hx]at he;cases he
  |some x=>
   rw[hx]at he;simp only at he;by_cases hk:x.kind=2
   ·rw[if_pos hk]at he;cases he
   ·rw[if_neg hk]at he;cases hc:x.closed with
    |true=>rw[hc]at he;cases he
    |false=>
     rw[hc]at he;simp only[aa3,if_false]at he;by_cases hb:1099511627776<aT
     ·rw[if_pos hb]at he;cases he
     ·have ho:=h.each id x hx;have hk1:=ho.kind.resolve_right hk;have hcnt:=h.counts id x hx (h.zn hx hk);by_cases hl:x.links=0
      ·have hn:=ho.file hk1;have e:gX (Go.Proofs.YtmflaonodghbcaaGreatDoor.cu id (fun x=>{x with closed:=true,aT:=aT}) T) id=bM id T:=by
        unfold gX;rw[bF,if_pos rfl,hx];simp only[aam,hl,and_self,if_true];unfold bM Go.Proofs.YtmflaonodghbcaaGreatDoor.cu;clear hx ho hcnt he h
        induction T with
        |nil=>rfl
        |cons y r ih=>
         rw[List.map_cons,List.filter_cons,List.filter_cons,ih];by_cases hy:y.1=id<;>simp[hy]
       rw[e];exact h.del hx (h.zn hx hk) hn (by omega)
      ·have hs:fu (Go.Proofs.YtmflaonodghbcaaGreatDoor.cu id (fun x=>{x with closed:=true,aT:=aT}) T):=
        h.Av hx ⟨ho.kind,ho.file,fun h=>absurd h hk,fun h=>absurd h hl,ho.sorted,ho.good,ho.size,ho.links,⟨h0,by simp only;omega⟩⟩ rfl rfl rfl
       exact hs.settle (h.zn hx hk) (fun y hy=>by
        rw[bF,if_pos rfl,hx]at hy;simp only[aam,aag]at hy;rw[←hy];exact hk)
 ·simp only[if_neg he];exact h
theorem fu.uW{T:aI}(h:fu T)(id aT:Int)(h0:0≤aT):fu (uW T id aT).2:=by
 unfold Go.Proofs.YtmflaonodghbcaaGreatDoor.uW;by_cases he:Ql T id aT=0
 ·simp only[if_pos he];unfold Ql at he;cases hx:aj id T with
  |none=>rw[hx]at he;cases he
  |some x=>
   rw[hx]at he;simp only at he;by_cases hk:x.kind=2
   ·rw[if_pos hk]at he;cases he
   ·rw[if_neg hk]at he;by_cases hc:x.closed=false
    ·rw[if_pos hc]at he;cases he
    ·rw[if_neg hc]at he;by_cases hb:aT<x.aT
     ·rw[if_pos hb]at he;cases he
     ·rw[if_neg hb]at he;by_cases hb:1099511627776<aT
      ·rw[if_pos hb]at he;cases he
      ·have ho:=h.each id x hx;exact h.Av hx ⟨ho.kind,ho.file,fun h=>absurd h hk,ho.gone,ho.sorted,ho.good,ho.size,ho.links,⟨h0,by simp only;omega⟩⟩ rfl rfl rfl
 ·simp only[if_neg he];exact h
theorem D8{T:aI}{p tq:List Nm}(h:GH T p tq=0):wZ p tq=0∧(aG T 0 p).2=0∧bD T (aG T 0 p).1≠2∧(aQ T tq).2.2=0∧aj (aQ T tq).2.1 (aX T (aQ T tq).1)=none∧DC T (aG T 0 p).1<64:=by
 unfold GH at h;by_cases h1:wZ p tq≠0
 ·rw[if_pos h1]at h;exact absurd h h1
 ·rw[if_neg h1]at h;by_cases h2:(aG T 0 p).2≠0
  ·rw[if_pos h2]at h;exact absurd h h2
  ·rw[if_neg h2]at h;by_cases h3:bD T (aG T 0 p).1=2
   ·rw[if_pos h3]at h;cases h
   ·rw[if_neg h3]at h;by_cases h4:(aQ T tq).2.2≠0
    ·rw[if_pos h4]at h;exact absurd h h4
    ·rw[if_neg h4]at h;by_cases h5:(aj (aQ T tq).2.1 (aX T (aQ T tq).1)).isSome=true
     ·rw[if_pos h5]at h;cases h
     ·rw[if_neg h5]at h;by_cases h6:64≤DC T (aG T 0 p).1
      ·rw[if_pos h6]at h;cases h
      ·exact⟨by omega,by omega,h3,by omega,by simpa using h5,by omega⟩
theorem xY{p q:List Nm}(h:wZ p q=0):bS p=0∧bS q=0:=by
 unfold wZ at h;split at h
 ·rename_i h1;exact absurd h h1
 ·exact⟨by omega,h⟩
theorem fu.w_{T:aI}(h:fu T)(p tq:List Nm):fu (w_ T p tq).2:=by
 unfold Go.Proofs.YtmflaonodghbcaaGreatDoor.w_;by_cases he:GH T p tq=0
 ·simp only[if_pos he];obtain⟨h1,h2,h3,h4,h5,h6⟩:=D8 he;obtain⟨x,hx,hk,hm⟩:=nR h h4;obtain⟨y,hy⟩:=aak.1 (lI h p 0 (kY h) h2);have e1:aX T (aQ T tq).1=x.names:=by unfold aX;rw[hx]
  have e2:DC T (aG T 0 p).1=y.links:=by unfold DC;rw[hy]
  rw[e1]at h5;rw[e2]at h6;rw[eP hy]at h3;exact h.link hx hk (pU (xY h1).2 _ hm) h5 hy h3 h6 (h.zn hy h3)
 ·simp only[if_neg he];exact h
structure rz(W:World)(P:Nat→Prop)(w:World)(p:Nat)(T:aI):Prop where
 at_:∃g D mb ib nb,aM g D w p mb ib nb T∧∀b,g b≠ .none∨D b→W.heap.size≤b∧¬P b
 ok:fu T
 below:Below W.heap.size W w
 low:∀x,P x→x<w.heap.size
structure zo(W:World)(P:Nat→Prop)(w:World)(p:Nat)(T:aI):Prop where
 at_:∃g D mb ib nb,aM g D w p mb ib nb T∧∀b,g b≠ .none∨D b→W.heap.size≤b∧¬P b
 ok:OkW T
 below:Below W.heap.size W w
theorem zo.grow{W w w':World}{P:Nat→Prop}{p:Nat}{T:aI}(h:zo W P w p T)(hb:Below w.heap.size w w'):zo W P w' p T:=by
 obtain⟨g,D,mb,ib,nb,hA,hF⟩:=h.at_;exact⟨⟨g,D,mb,ib,nb,hA.below hb ace,hF⟩,h.ok,h.below.trans (hb.mono h.below.size)⟩
theorem rz.w{W w:World}{P:Nat→Prop}{p:Nat}{T:aI}(h:rz W P w p T):zo W P w p T:=⟨h.at_,h.ok.w,h.below⟩
instance{W w:World}{P:Nat→Prop}{p:Nat}{T:aI}:Coe (rz W P w p T) (zo W P w p T):=⟨rz.w⟩
theorem rz.grow{W w w':World}{P:Nat→Prop}{p:Nat}{T:aI}(h:rz W P w p T)(hb:Below w.heap.size w w'):rz W P w' p T:=by
 obtain⟨g,D,mb,ib,nb,hA,hF⟩:=h.at_;exact⟨⟨g,D,mb,ib,nb,hA.below hb ace,hF⟩,h.ok,h.below.trans (hb.mono h.below.size),fun x hx=>Nat.lt_of_lt_of_le (h.low x hx) hb.size⟩
theorem rz.mono{W w:World}{P Q:Nat→Prop}{p:Nat}{T:aI}(h:rz W P w p T)(hq:∀x,Q x→P x):rz W Q w p T:=by
 obtain⟨g,D,mb,ib,nb,hA,hF⟩:=h.at_;exact⟨⟨g,D,mb,ib,nb,hA,fun x hx=>⟨(hF x hx).1,fun h=>(hF x hx).2 (hq x h)⟩⟩,h.ok,h.below,fun x hx=>h.low x (hq x hx)⟩
section
variable{W w:World}{P:Nat→Prop}{p:Nat}{T:aI}
end
theorem iA(T:aI):∀(p q:List Nm) (a:Int),aG T a (p++q)=if (aG T a p).2=0 then aG T (aG T a p).1 q else aG T a p
 |[],q,a=>by simp[aG]
 |n::r,q,a=>by
  rcases ab2 (aj a T)with hx|⟨x,hx⟩
  ·simp[aG,hx]
  ·by_cases hk:x.kind=2
   ·rcases ab2 (aj n x.names)with hn|⟨k,hn⟩
    ·simp[aG,hx,hk,hn]
    ·simp only[abR,aG,hx,if_pos hk,hn];exact iA T r q k
   ·simp[aG,hx,hk]
theorem fG{T:aI}{p:List Nm}{id:Int}(h:aG T 0 p=(id,0))(hp:p≠[]):∃d x n,aQ T p=(d,n,0)∧aG T 0 p.dropLast=(d,0)∧aj d T=some x∧x.kind=2∧aj n x.names=some id∧n∈p∧p=p.dropLast++[n]:=by
 obtain⟨q,n,rfl⟩:∃q n,p=q++[n]:=⟨p.dropLast,p.getLast hp,(List.dropLast_concat_getLast hp).symm⟩;rw[iA]at h;have hd:(q++[n]).dropLast=q:=by simp
 have hl:(q++[n]).getLastD []=n:=by simp[ab1]
 by_cases he:(aG T 0 q).2=0
 ·rw[if_pos he]at h;obtain⟨⟨d,e0⟩,hq⟩:∃r,r=aG T 0 q:=⟨_,rfl⟩;rw[←hq]at h he;simp only at he;subst he;simp only[aG]at h;cases hx:aj d T with
  |none=>rw[hx]at h;cases h
  |some x=>
   rw[hx]at h;simp only at h;by_cases hk:x.kind=2
   ·rw[if_pos hk]at h;cases hn:aj n x.names with
    |none=>rw[hn]at h;cases h
    |some k=>
     rw[hn]at h;simp only[aa7,and_true]at h;subst h;refine⟨d,x,n,?_,by rw[hd,←hq],hx,hk,hn,by simp,by rw[hd]⟩;unfold aQ;rw[if_neg hp,hd,hl,←hq,if_neg (by simp),if_pos ((eP hx).trans hk)]
   ·rw[if_neg hk]at h;cases h
 ·rw[if_neg he]at h;rw[h]at he;exact absurd rfl he
theorem Vb{α:Type}{κ:Type}[DecidableEq κ]{lt:κ→κ→Bool}(L:pK lt)(P:κ×α→Bool){l:List (κ×α)}(hs:aO lt l){k:κ}{v:α}(hg:aj k l=some v):(bM k l).countP P+(if P (k,v)then 1 else 0)=l.countP P:=by
 induction l with
 |nil=>cases hg
 |cons y r ih=>
  have hp:=hs.apart L;obtain⟨h1,h2⟩:=aau.1 hp;rw[fD]at hg;have hcons:bM k (y::r)=if y.1=k then bM k r else y::bM k r:=by
   unfold bM;rw[List.filter_cons];by_cases hy:y.1=k<;>simp[hy]
  rw[hcons];by_cases hy:y.1=k
  ·rw[if_pos hy]at hg;rw[if_pos hy];cases hg;have hr:bM k r=r:=by
    unfold bM;rw[abe];intro q hq;have:=h1 q hq;simp only[Bool.not_eq_true',abx];exact fun e=>this (hy.trans e.symm)
   have e:(k,y.2)=y:=by rw[←hy]
   rw[hr,aa9,e]
  ·rw[if_neg hy]at hg;rw[if_neg hy,aa9,aa9];have:=ih (aau.1 hs).2 hg;omega
theorem cn_cut{x:eG}(h:M9 x){n:Nm}{id:Int}(hn:aj n x.names=some id)(k:Int):cn k {x with names:=bM n x.names}+(if id=k then 1 else 0)=cn k x:=by
 have:=Vb Dx (fun e:Nm×Int=>decide (e.2=k)) h.sorted hn;unfold cn;simp only[aar]at this;exact this
theorem Zf{x:eG}(h:Qm x)(n:Nm)(hk:x.kind=2):Qm {x with names:=bM n x.names}:=by
 refine⟨h.kind,fun h1=> ?_,h.dir,h.gone,h.sorted.bM _,fun e he=>h.good e (aax.1 he).1,h.size,h.links,h.aT⟩;have:x.kind=1:=h1;omega
theorem Cw.cut{T:aI}(h:Cw T){d:Int}{x:eG}{n:Nm}(hx:aj d T=some x)(hk:x.kind=2):Cw (aZ T d n):=
 h.cu hx (Zf (h.each d x hx) n hk) rfl (fun e he=>h.leads d x hx e (aax.1 he).1)
theorem DI.del{T:aI}(h:DI T){k:Int}{x:eG}(hx:aj k T=some x)(h0:k≠0)(hc:fF T k=0):DI (bM k T):=by
 have hget:∀j y,aj j (bM k T)=some y→j≠k∧aj j T=some y:=fun j y hy=>by
  rw[eZ]at hy;by_cases hj:j=k
  ·rw[if_pos hj]at hy;cases hy
  ·rw[if_neg hj]at hy;exact⟨hj,hy⟩
 refine⟨h.sorted.bM _,?_,fun j y hy=>h.each j y (hget j y hy).2,fun j y hy e he=> ?_,?_,fun j y hy=>h.ids j y (hget j y hy).2⟩
 ·have hr:=h.root;unfold bD at hr⊢;rw[eZ,if_neg (aaP h0)];exact hr
 ·have h1:=h.leads j y (hget j y hy).2 e he;have h2:=CS hc (hget j y hy).2 e he;rw[eZ,if_neg h2];exact h1
 ·have:=uV dU h.sorted hx;have:=h.len;omega
theorem Cw.del{T:aI}(h:Cw T){k:Int}{x:eG}(hx:aj k T=some x)(h0:k≠0)(hc:fF T k=0):Cw (bM k T):=
 Cw.of_w (h.w.del hx h0 hc) fun j y hy=>by
  rw[eZ]at hy;by_cases hj:j=k
  ·rw[if_pos hj]at hy;cases hy
  ·rw[if_neg hj]at hy;exact(h.each j y hy).links.2
theorem rO{T:aI}(h:DI T){d id:Int}{x:eG}{n:Nm}(hx:aj d T=some x)(hn:aj n x.names=some id)(j:Int):fF (aZ T d n) j+(if id=j then 1 else 0)=fF T j:=by
 have h1:=mY h.sorted (fun x=>{x with names:=bM n x.names}) hx j;have h2:=cn_cut (h.each d x hx) hn j;unfold aZ;omega
theorem IX{T:aI}{d j:Int}{n:Nm}{y:eG}(hy:aj j (aZ T d n)=some y):∃z,aj j T=some z∧y.links=z.links∧y.kind=z.kind∧y.closed=z.closed∧y.b=z.b∧(j≠d→y=z):=by
 unfold aZ at hy;rw[bF]at hy;by_cases hj:j=d
 ·rw[if_pos hj]at hy;cases hz:aj j T with
  |none=>rw[hz]at hy;cases hy
  |some z=>
   rw[hz]at hy;simp only[aam,aag]at hy;subst hy;exact⟨z,rfl,rfl,rfl,rfl,rfl,fun h=>absurd hj h⟩
 ·rw[if_neg hj]at hy;exact⟨y,hy,rfl,rfl,rfl,rfl,fun _=>rfl⟩
theorem fu.Qt{T:aI}(h:fu T){d id:Int}{x y:eG}{n:Nm}(hx:aj d T=some x)(hk:x.kind=2)(hn:aj n x.names=some id)(hy:aj id T=some y)(hid:id≠d)(h0:id≠0)(hyn:y.names=[])(hl:y.links=1):fu (bM id (aZ T d n)):=by
 have hP:=h.toCw.cut (n:=n) hx hk;have hy1:aj id (aZ T d n)=some y:=by unfold aZ;rw[bF,if_neg hid];exact hy
 have hc:=h.counts id y hy h0;have h1:=rO h.toCw hx hn id;rw[if_pos rfl]at h1;refine⟨hP.del hy1 h0 (by omega),fun j z hz hj=> ?_⟩;have hji:j≠id:=fun e=>by subst e;rw[pI]at hz;cases hz
 rw[eZ,if_neg hji]at hz;obtain⟨z',hz',hl',_⟩:=IX hz;have h2:=rO h.toCw hx hn j;rw[if_neg (aaP hji)]at h2;have h3:=Au hP.sorted hy1 j;have h4:cn j y=0:=by unfold cn;rw[hyn];rfl
 have:=h.counts j z' hz' hj;omega
theorem fu.Vd{T:aI}(h:fu T){d id:Int}{x y:eG}{n:Nm}(hx:aj d T=some x)(hk:x.kind=2)(hn:aj n x.names=some id)(hy:aj id T=some y)(hyk:y.kind≠2):
  fu (gX (Go.Proofs.YtmflaonodghbcaaGreatDoor.cu id (fun x=>{x with links:=x.links-1}) (aZ T d n)) id):=by
 have hoy:=h.each id y hy;have h0:=h.zn hy hyk;have hid:id≠d:=fun e=>by subst e;rw[hx]at hy;cases hy;exact hyk hk
 have hk1:=hoy.kind.resolve_right hyk;have hyn:=hoy.file hk1;have hP:=h.toCw.cut (n:=n) hx hk;have hy1:aj id (aZ T d n)=some y:=by unfold aZ;rw[bF,if_neg hid];exact hy
 have hg:aj id (Go.Proofs.YtmflaonodghbcaaGreatDoor.cu id (fun x=>{x with links:=x.links-1}) (aZ T d n))=some {y with links:=y.links-1}:=by rw[bF,if_pos rfl,hy1];rfl
 have hcy:=h.counts id y hy h0;have h1:=rO h.toCw hx hn id;rw[if_pos rfl]at h1;unfold gX;rw[hg];simp only;by_cases hc:y.links-1=0∧y.closed=true
 ·rw[if_pos hc];have e:bM id (Go.Proofs.YtmflaonodghbcaaGreatDoor.cu id (fun x=>{x with links:=x.links-1}) (aZ T d n))=bM id (aZ T d n):=by
   generalize aZ T d n=L;unfold bM Go.Proofs.YtmflaonodghbcaaGreatDoor.cu
   induction L with
   |nil=>rfl
   |cons y r ih=>
    rw[List.map_cons,List.filter_cons,List.filter_cons,ih];by_cases hy:y.1=id<;>simp[hy]
  rw[e];exact h.Qt hx hk hn hy hid h0 hyn (by omega)
 ·rw[if_neg hc];refine⟨hP.cu (f:=fun x=>{x with links:=x.links-1}) hy1 ⟨hoy.kind,hoy.file,fun h=>absurd h hyk,fun h=> ?_,hoy.sorted,hoy.good,hoy.size,?_,hoy.aT⟩ rfl (hP.leads id y hy1),fun j z hz hj=> ?_⟩
  ·cases hcl:y.closed with
   |true=>exact absurd ⟨h,hcl⟩ hc
   |false=>rfl
  ·have:=hoy.links;simp only;omega
  ·have h3:=mY hP.sorted (fun x=>{x with links:=x.links-1}) hy1 j;have h3':cn j {y with links:=y.links-1}=cn j y:=rfl;have h4:=rO h.toCw hx hn j;rw[bF]at hz;by_cases hji:j=id
   ·subst hji;rw[if_pos rfl,hy1]at hz;simp only[aam,aag]at hz;rw[if_pos rfl]at h4;rw[←hz];simp only;omega
   ·rw[if_neg hji]at hz;rw[if_neg (aaP hji)]at h4;obtain⟨z',hz',hl',_⟩:=IX hz;have:=h.counts j z' hz' hj;omega
theorem IY{T:aI}{p:List Nm}(h:jY T p=0):bS p=0∧(aG T 0 p).2=0∧bD T (aG T 0 p).1≠2:=by
 unfold jY bU at h;by_cases h1:bS p≠0
 ·rw[if_pos h1]at h;simp only[if_pos h1]at h;exact absurd h h1
 ·rw[if_neg h1]at h;by_cases h2:(aG T 0 p).2≠0
  ·rw[if_pos h2]at h;exact absurd h h2
  ·rw[if_neg h2]at h;by_cases h3:bD T (aG T 0 p).1=2
   ·rw[if_pos h3]at h;cases h
   ·exact⟨by omega,by omega,h3⟩
theorem fu.dR{T:aI}(h:fu T)(p:List Nm):fu (dR T p).2:=by
 unfold Go.Proofs.YtmflaonodghbcaaGreatDoor.dR;by_cases he:jY T p=0
 ·simp only[if_pos he];obtain⟨h1,h2,h3⟩:=IY he;obtain⟨y,hy⟩:=aak.1 (lI h p 0 (kY h) h2);have hp:p≠[]:=fun e=>by subst e;exact h3 h.root
  obtain⟨d,x,n,e1,_,hx,hk,hn,_⟩:=fG (id:=(aG T 0 p).1) (abk rfl h2) hp;rw[eP hy]at h3;unfold yU;rw[e1];exact h.Vd hx hk hn hy h3
 ·simp only[if_neg he];exact h
theorem KN{T:aI}{p:List Nm}(h:DF T p=0):bS p=0∧(aG T 0 p).2=0∧bD T (aG T 0 p).1=2∧(aG T 0 p).1≠0∧aX T (aG T 0 p).1=[]:=by
 unfold DF bU at h;by_cases h1:bS p≠0
 ·rw[if_pos h1]at h;simp only[if_pos h1]at h;exact absurd h h1
 ·rw[if_neg h1]at h;by_cases h2:(aG T 0 p).2≠0
  ·rw[if_pos h2]at h;exact absurd h h2
  ·rw[if_neg h2]at h;by_cases h3:bD T (aG T 0 p).1≠2
   ·rw[if_pos h3]at h;cases h
   ·rw[if_neg h3]at h;by_cases h4:(aG T 0 p).1=0
    ·rw[if_pos h4]at h;cases h
    ·rw[if_neg h4]at h;by_cases h5:0<(aX T (aG T 0 p).1).length
     ·rw[if_pos h5]at h;cases h
     ·exact⟨by omega,by omega,by omega,h4,Pe (by omega)⟩
theorem fu.qZ{T:aI}(h:fu T)(p:List Nm):fu (qZ T p).2:=by
 unfold Go.Proofs.YtmflaonodghbcaaGreatDoor.qZ;by_cases he:DF T p=0
 ·simp only[if_pos he];obtain⟨h1,h2,h3,h4,h5⟩:=KN he;obtain⟨y,hy⟩:=aak.1 (lI h p 0 (kY h) h2);have hp:p≠[]:=fun e=>by subst e;exact h4 rfl
  obtain⟨d,x,n,e1,_,hx,hk,hn,_⟩:=fG (id:=(aG T 0 p).1) (abk rfl h2) hp;have hyn:y.names=[]:=by unfold aX at h5;rw[hy]at h5;exact h5
  rw[eP hy]at h3;unfold IU;rw[e1];refine h.Qt hx hk hn hy (fun e=> ?_) h4 hyn ((h.each _ y hy).dir h3).1;rw[e,hx]at hy;cases hy;rw[hyn]at hn;cases hn
 ·simp only[if_neg he];exact h
section
variable{g:Nat→Own}{D:Nat→Prop}{p mb:Nat}{ib nb:Int→Nat}{T:aI}
theorem Qu{S:Nat→Prop}(a:Option Addr)(n c:Nat)(ls:List Nm)(w:World)(h:aM g D w p mb ib nb T)(hT:OkW T)(hS:bH S w a n (ls.map strOf)):
  Calls Tryz.prog 120 #[ptr p,.slice a n c] w fun e w'=>e= .returned (.tuple #[.int .i64 (bU T ls).1,.int .i64 (bU T ls).2])∧Below w.heap.size w w':=by
 have HF:=ab9 (DR (S:=S) a n c ls w hS);have yO:=ab9 (fun w1 (hb:Below w.heap.size w w1)=>DN a n c ls w1 (h.below hb ace) hT (hS.below hb ace));clear h hT hS;by_cases hf:bS ls=0
 ·have HE:acd (bU T ls=aG T 0 ls):=by unfold bU;rw[if_neg (by rw[hf];simp)];exact rfl
  rw[hf]at HF;clear hf;go_enter Tryz.func120,Tryz.ntmps120;go_wp2_with fail;refine HF.o.mono ?_;rintro e w1 ⟨rfl,hb1⟩;have HB1:=ab9 hb1;clear hb1;go_wp2_with fail;refine(yO.o w1 HB1.o).mono ?_;rintro e w2 ⟨rfl,rfl⟩;go_wp2_with fail
  go_ret2
  rw[HE.o];exact⟨rfl,HB1.o⟩
 ·have HE:acd (bU T ls=(0,bS ls)):=by unfold bU;rw[if_pos hf];exact rfl
  have hne:(bS ls==0)=false:=by simpa using hf
  have hne2:(bS ls !=0)=true:=by simpa using hf
  clear hf;go_enter Tryz.func120,Tryz.ntmps120;go_wp2_with fail;refine HF.o.mono ?_;rintro e w1 ⟨rfl,hb1⟩;have HB1:=ab9 hb1;clear hb1;go_wp2_with fail
  go_ret2
  rw[HE.o];exact⟨rfl,HB1.o⟩
theorem Ve{S:Nat→Prop}{d:Int}{nm:Nm}(a:Option Addr)(n c:Nat)(ls:List Nm)(w:World)(h:aM g D w p mb ib nb T)(hT:fu T)(hS:bH S w a n (ls.map strOf))(hc:n≤c)(vY:n≤1000000)(hp:aQ T ls=(d,nm,0)):
  Calls Tryz.prog 117 #[ptr p,.slice a n c] w fun e w'=>e= .returned (.tuple #[ptr (ib d),.string (strOf nm),.int .i64 0])∧Below w.heap.size w w':=by
 have:=GR a n c ls w h hT hS hc vY;unfold ze at this;rw[hp]at this;exact this
theorem RN{w:World}{d:Int}{x:eG}(h:aM g D w p mb ib nb T)(hx:aj d T=some x)(hk:x.kind=2):w.cell? ⟨ib d,7,none⟩=some (.map (some (nb d)))∧MapAt fT w (nb d) (dJ x):=by
 have hi:=h.item d x hx;obtain⟨_,_,_,_,_,_,c7,_⟩:=hi.cell;unfold eu at c7;rw[if_pos hk]at c7;exact⟨c7,hi.names hk⟩
theorem okNm{nm:Nm}(h:dO nm=true):fT.ok nm:=by
 have:=zf nm h;show nm.length≤maxLen;unfold maxLen;omega
theorem cut_at{w w':World}{d:Int}{x:eG}{n:Nm}(h:aM g D w p mb ib nb T)(hx:aj d T=some x)(hk:x.kind=2)(hM:MapAt fT w' (nb d) (bM n (dJ x)))(hT:w.mapTurned w' (nb d)):aM g D w' p mb ib nb (aZ T d n)∧Keeps (fun b=>g b≠ .none) w w':=
 ⟨h.cut hx hk hM hT,(gD hT).mono fun b _ hb=>by rw[show b=nb d from hb,h.mX d x hx hk];simp⟩
theorem nT{w w':World}{fp:Nat→Prop}(hb:Below w.heap.size w w'):Keeps fp w w':=(Keeps.below hb).mono fun b hb hb'=>absurd hb (by omega)
theorem RO{S:Nat→Prop}(a:Option Addr)(n c:Nat)(ls:List Nm)(w:World)(h:aM g D w p mb ib nb T)(hT:fu T)(hS:bH S w a n (ls.map strOf))(hc:n≤c)(vY:n≤1000000):
  Calls Tryz.prog 129 #[ptr p,.slice a n c] w (Turn g D w p mb (dR T ls).2 (.int .i64 (dR T ls).1)):=by
 have HH:=ab9 h;have HT:=ab9 hT;have HS:=ab9 hS;have HF:=ab9 (DR (S:=S) a n c ls w hS);have yO:=ab9 (fun w1 (hb:Below w.heap.size w w1)=>DN a n c ls w1 (h.below hb ace) hT (hS.below hb ace));clear h hT hS;by_cases hf:bS ls=0
 ·have DT:=ab9 hf;rw[hf]at HF;clear hf;have Gb:acd (bU T ls=aG T 0 ls):=by unfold bU;rw[if_neg (by rw[DT.o];simp)];exact rfl
  obtain⟨⟨id,e0⟩,hq⟩:∃q,q=aG T 0 ls:=⟨_,rfl⟩;have HQ:=ab9 hq;rw[←hq]at yO Gb;clear hq;by_cases he:e0=0
  ·subst he;obtain⟨y,hy⟩:=aak.1 (D6 HQ.o.symm HT.o);have HY:=ab9 hy;have xU:=HT.o.ids id y hy;have hok:aU.ok id:=mg xU.1 (by omega);have HG:acd (aj id (T.map fun q=>(q.1,ptr (ib q.1)))=some (ptr (ib id))):=by rw[dH,hy];rfl
   have HIT:acd (∀w1,Below w.heap.size w w1→w1.cell? ⟨p,0,none⟩=some (.map (some mb))∧MapAt aU w1 mb (T.map fun q=>(q.1,ptr (ib q.1)))∧w1.cell? ⟨ib id,1,none⟩=some (.int .i64 y.kind)):=fun w1 hb=>by
    have h2:=HH.o.below hb ace;obtain⟨_,c1,c2,_⟩:=(h2.item id y HY.o).cell;exact⟨h2.cell.1,h2.map,c1⟩
   clear hy;by_cases hk:y.kind=2
   ·have HM:acd (dR T ls=(22,T)):=by
     have:jY T ls=22:=by
      unfold jY;rw[Gb.o,←HQ.o,if_neg (by simp),if_pos ((eP HY.o).trans hk)]
     unfold dR;rw[this]<;>exact rfl
    go_enter Tryz.func129,Tryz.ntmps129;go_wp2_with fail;refine HF.o.mono ?_;rintro e w1 ⟨rfl,hb1⟩;have HB1:=ab9 hb1;clear hb1;go_wp2_with fail;refine(yO.o w1 HB1.o).mono ?_;rintro e w2 ⟨rfl,rfl⟩;obtain⟨c0,hmap,c1⟩:=HIT.o w1 HB1.o;rw[hk]at c1;have lT:=ab9 hmap;clear hmap;go_wp2_with (first|(at_lookup;refine bJ aU rfl _ _ 186 189 rfl Tryz.underlying186 (Tryz.bW _) rfl lT.o id rfl hok ?_;rw[HG.o]));go_ret;rw[HM.o];exact Turn.same HH.o HB1.o rfl
   ·have hkk:(y.kind==2)=false:=by simpa using hk
    have hp:ls≠[]:=fun e=>by
     have h1:id=0:=aaG Prod.fst (HQ.o.trans (by rw[e]<;>exact(rfl:aG T 0 []=(0,0))));have:=HT.o.root;rw[←h1,eP HY.o]at this;exact hk this
    obtain⟨d,x,nm,e1,-,hx,hxk,hn,hmem,-⟩:=fG HQ.o.symm hp;have Qp:=ab9 (pU DT.o _ hmem);have IV:=okNm Qp.o;have HM:acd (dR T ls=(0,gX (cu id (fun x=>{x with links:=x.links-1}) (aZ T d nm)) id)):=by
     have:jY T ls=0:=by
      unfold jY;rw[Gb.o,←HQ.o,if_neg (by simp),if_neg (by rw[eP HY.o];exact hk)]
     unfold dR yU;rw[this,←HQ.o,e1];exact rfl
    have Aw:=ab9 (fun w1 (hb:Below w.heap.size w w1)=>Ve a n c ls w1 (HH.o.below hb ace) HT.o (HS.o.below hb ace) hc vY e1);have HX:=ab9 hx;have ML:=ab9 hxk;have hdi:id≠d:=fun e=>by subst e;rw[HY.o]at hx;cases hx;exact hk hxk
    have KO:=ab9 hdi;have KD:=ab9 (fun w2 (hb:Below w.heap.size w w2)=>RN (HH.o.below hb ace) hx hxk);have HWID:acd ((Lit.int .i64 id).wf=true):=hok;have hln:=(HT.o.each id y HY.o).links;clear hk hp e1 hx hxk hn hmem hdi;go_enter Tryz.func129,Tryz.ntmps129;go_wp2_with fail;refine HF.o.mono ?_;rintro e w1 ⟨rfl,hb1⟩;have HB1:=ab9 hb1;clear hb1;go_wp2_with fail;refine(yO.o w1 HB1.o).mono ?_;rintro e w2 ⟨rfl,rfl⟩;obtain⟨c0,hmap,c1⟩:=HIT.o w1 HB1.o;have lT:=ab9 hmap;clear hmap;go_wp2_with (first|(at_lookup;refine bJ aU rfl _ _ 186 189 rfl Tryz.underlying186 (Tryz.bW _) rfl lT.o id rfl hok ?_;rw[HG.o]));refine(Aw.o w1 HB1.o).mono ?_;rintro e w2 ⟨rfl,hb2⟩;have HB2:=ab9 (HB1.o.trans (hb2.mono HB1.o.size));clear hb2;obtain⟨d7,mh⟩:=KD.o w2 HB2.o;have Ai:=ab9 mh;have HA2:=ab9 (HH.o.below HB2.o ace);clear mh;have u_:acd (∀w3,MapAt fT w3 (nb d) (bM nm (dJ x))→w2.mapTurned w3 (nb d)→(aM g D w3 p mb ib nb (aZ T d nm)∧Keeps (fun b=>g b≠ .none) w2 w3)∧aj id (aZ T d nm)=some y∧w3.cell? ⟨ib id,2,none⟩=some (.int .i64 y.links)∧w3.frozen? ⟨ib id,2,none⟩=false):=fun w3 hM hTu=>by
     have h3:=cut_at HA2.o HX.o ML.o hM hTu;have hy3:aj id (aZ T d nm)=some y:=by unfold aZ;rw[bF,if_neg KO.o];exact HY.o
     exact⟨h3,hy3,(h3.1.item id y hy3).cell.2.2.1,(h3.1.item id y hy3).frozen 2⟩
    go_wp2_with (at_delete;refine F3 fT rfl _ _ 190 3 rfl Tryz.underlying190 rfl Ai.o nm rfl IV ?_;intro w3 Ny hT3;obtain⟨hA3,hy3,g2,gf2⟩:=u_.o w3 Ny hT3;have Vf:=ab9 hA3;have HY3:=ab9 hy3;clear hA3 Ny hT3 hy3);have hA3:=Vf.o;have hgi:=HH.o.pR id y HY.o
    have MN:aM g D (w3.setCell ⟨ib id,2,none⟩ (.int .i64 (y.links-1))) p mb ib nb (cu id (fun x=>{x with links:=x.links-1}) (aZ T d nm)):=
     hA3.1.fields HY3.o (fun x=>{x with links:=x.links-1}) rfl rfl rfl (Keeps.kX w3 ⟨ib id,2,none⟩ _) (by rw[size_set]) fun a c hc=>by rw[aK hc];rfl
    have hy4:aj id (cu id (fun x=>{x with links:=x.links-1}) (aZ T d nm))=some {y with links:=y.links-1}:=by rw[bF,if_pos rfl,HY3.o];rfl
    have rM:acd (Keeps (fun b=>g b≠ .none) w (w3.setCell ⟨ib id,2,none⟩ (.int .i64 (y.links-1)))):=
     ((nT HB2.o).trans hA3.2 (fun _ _ h=>h)).trans ((Keeps.kX w3 ⟨ib id,2,none⟩ _).mono fun b _ hb=>by rw[show b=ib id from hb,hgi];simp) (fun _ _ h=>h)
    have Zg:=ab9 (DW id hy4 HWID.o _ MN);have HGM:=ab9 HH.o.jg;clear hA3 hgi MN hy4;refine Zg.o.mono ?_;rintro e w5 ⟨rfl,hA5,hK5,_⟩;have HA5:=ab9 hA5;have J6:=ab9 hK5;clear hA5 hK5;go_wp2_with fail;go_ret;rw[HM.o];exact Turn.of rfl HA5.o (rM.o.trans (J6.o.mono fun b _ hb=>by rw[show b=mb from hb,HGM.o];simp) (fun _ _ h=>h))
  ·have hne:(e0==0)=false:=by simpa using he
   have hne2:(e0 !=0)=true:=by simpa using he
   have HM:acd (dR T ls=(e0,T)):=by
    have:jY T ls=e0:=by
     unfold jY;rw[Gb.o,if_pos he]
    unfold dR;rw[this,if_neg he];exact rfl
   clear he;go_enter Tryz.func129,Tryz.ntmps129;go_wp2_with fail;refine HF.o.mono ?_;rintro e w1 ⟨rfl,hb1⟩;have HB1:=ab9 hb1;clear hb1;go_wp2_with fail;refine(yO.o w1 HB1.o).mono ?_;rintro e w2 ⟨rfl,rfl⟩;go_wp2_with fail;go_ret;rw[HM.o];exact Turn.same HH.o HB1.o rfl
 ·have HM:acd (dR T ls=(bS ls,T)):=by
   have:jY T ls=bS ls:=by unfold jY bU;rw[if_pos hf,if_pos hf]
   unfold dR;rw[this,if_neg hf];exact rfl
  have hne:(bS ls==0)=false:=by simpa using hf
  have hne2:(bS ls !=0)=true:=by simpa using hf
  clear hf;go_enter Tryz.func129,Tryz.ntmps129;go_wp2_with fail;refine HF.o.mono ?_;rintro e w1 ⟨rfl,hb1⟩;go_wp2_with fail;go_ret;rw[HM.o];exact Turn.same HH.o hb1 rfl
end
def maxD(d:Int→Nat)(l:List (Nm×Int)):Nat:=(l.map fun e=>1+d e.2).foldr Nat.max 0
theorem IZ(d:Int→Nat):∀{l:List (Nm×Int)} {e:Nm×Int},e∈l→1+d e.2≤maxD d l
 |x::r,e,h=>by
  have e1:maxD d (x::r)=Nat.max (1+d x.2) (maxD d r):=rfl;rw[e1];rcases aaq.1 h with rfl|h
  ·exact Nat.le_max_left _ _
  ·exact Nat.le_trans (IZ d h) (Nat.le_max_right _ _)
theorem maxD_le(d:Int→Nat){m:Nat}:∀{l:List (Nm×Int)},(∀e∈l,1+d e.2≤m)→maxD d l≤m
 |[],_=>Nat.zero_le _
 |x::r,h=>by
  have e1:maxD d (x::r)=Nat.max (1+d x.2) (maxD d r):=rfl;rw[e1];exact Nat.max_le.2 ⟨h x (by simp),maxD_le d fun e he=>h e (by simp[he])⟩
def rP(T:aI):Nat→Int→Nat
 |0,_=>0
 |n+1,id=>maxD (rP T n) (aX T id)
def KP(T:aI):Nat→Int→Prop
 |0,id=>aX T id=[]
 |n+1,id=>∀e∈aX T id,KP T n e.2
theorem KP.le{T:aI}:∀{n:Nat} {id:Int},KP T n id→rP T n id≤n
 |0,_,_=>Nat.le_refl _
 |n+1,id,h=>maxD_le _ fun e he=>by have:=(h e he).le;omega
section
variable{P:Program}{w:World}{ops:Array Oper}{rest:List Oper}{o:Oper}{a:Act}{Q:Exit→Act→World→Prop}
theorem AB(hg:o.guard=none)(m:Operand)(t k e:TypeId)(hop:o.op=Op.range t m)(ht:P.underlying t=some (.map k e))(hm:a.eval m= .map none)
  (h:wpList P ops Q rest (a.put o.dst (.pointer (some ⟨w.heap.size,0,none⟩))) (w.alloc (.mapIter none 0 #[] 0))):wpList P ops Q (o::rest) a w:=by
 refine abI hg fun K' hK'=> ?_;have hrun:(Instr.range t (.map none)).run P w= .ok (.pointer (some ⟨w.heap.size,0,none⟩)) (w.alloc (.mapIter none 0 #[] 0)):=by
  simp[Instr.range,abH ht,Result.andThen]
 unfold Oper.wp;simp[execOp,hop,hm,hrun,Result.andThen];exact hK' _ _ h
theorem Cz(hg:o.guard=none)(it:Operand)(hop:o.op=Op.next it false){r:Nat}(hit:a.eval it= .pointer (some ⟨r,0,none⟩))(hr:w.heap[r]? =some (.mapIter none 0 #[] 0))
  (h:wpList P ops Q rest (a.put o.dst (.tuple #[.bool false])) w):wpList P ops Q (o::rest) a w:=by
 refine abI hg fun K' hK'=> ?_;have hrun:(Instr.next (.pointer (some ⟨r,0,none⟩)) false o.type).run P w= .ok (.tuple #[.bool false]) w:=by
  simp only[Instr.next,getObj,abJ,Sem.run,hr,Result.andThen];rfl
 unfold Oper.wp;simp[execOp,hop,hit,hrun,Result.andThen];exact hK' _ _ h
end
section
variable{g:Nat→Own}{D:Nat→Prop}{p mb:Nat}{ib nb:Int→Nat}{T:aI}
end
structure eH(T:aI)(dep:Int→Nat):Prop where
 zero:dep 0=0
 up:∀d x,aj d T=some x→∀e∈x.names,dep d<8∧(bD T e.2=2→dep e.2=dep d+1)
theorem iW{T:aI}{id:Int}{x:eG}(hx:aj id T=some x):aX T id=x.names:=by unfold aX;rw[hx]
theorem pY{T:aI}{id:Int}{e:Nm×Int}(h:e∈aX T id):∃x,aj id T=some x∧e∈x.names:=by
 unfold aX at h;cases hx:aj id T with
 |none=>rw[hx]at h;cases h
 |some x=>rw[hx]at h;exact⟨x,rfl,h⟩
theorem mZ{T:aI}(hT:OkW T){id:Int}{x:eG}(hx:aj id T=some x){e:Nm×Int}(he:e∈x.names):x.kind=2:=by
 rcases (hT.each id x hx).kind with h|h
 ·rw[(hT.each id x hx).file h]at he;cases he
 ·exact h
theorem Vg{T:aI}{id:Int}(h:aX T id=[]):∀n,KP T n id
 |0=>h
 |n+1=>fun e he=>by rw[h]at he;cases he
theorem eH.shal{T:aI}{dep:Int→Nat}(h:eH T dep)(hT:OkW T):∀(n:Nat) (d:Int),8≤n+dep d→KP T n d
 |0,d,hd=>by
  show aX T d=[];cases hn:aX T d with
  |nil=>rfl
  |cons e r=>
   obtain⟨x,hx,he⟩:=pY (T:=T) (id:=d) (e:=e) (by rw[hn];simp);have:=(h.up d x hx e he).1;omega
 |n+1,d,hd=>fun e he=>by
  obtain⟨x,hx,he⟩:=pY he;by_cases hk:bD T e.2=2
  ·have:=(h.up d x hx e he).2 hk;exact h.shal hT n e.2 (by omega)
  ·refine Vg ?_ n;obtain⟨y,hy⟩:=aak.1 (hT.leads d x hx e he).1;rw[eP hy]at hk;rw[iW hy];exact(hT.each _ y hy).file ((hT.each _ y hy).kind.resolve_right hk)
theorem eH.shal8{T:aI}{dep:Int→Nat}(h:eH T dep)(hT:OkW T)(d:Int):KP T 8 d:=h.shal hT 8 d (by omega)
theorem o_{T:aI}{a d:Int}{n:Nm}{r:List Nm}(h:aG T a (n::r)=(d,0)):∃x k,aj a T=some x∧x.kind=2∧aj n x.names=some k∧aG T k r=(d,0):=by
 simp only[aG]at h;cases hx:aj a T with
 |none=>rw[hx]at h;cases h
 |some x=>
  rw[hx]at h;simp only at h;by_cases hk:x.kind=2
  ·rw[if_pos hk]at h;cases hn:aj n x.names with
   |none=>rw[hn]at h;cases h
   |some k=>rw[hn]at h;exact⟨x,k,rfl,hk,hn,h⟩
  ·rw[if_neg hk]at h;cases h
theorem vk{T:aI}{dep:Int→Nat}(h:eH T dep):∀(p:List Nm) (a d:Int),aG T a p=(d,0)→bD T d=2→dep d=dep a+p.length
 |[],a,d,hl,_=>by
  have:a=d:=aaG Prod.fst hl;subst this;rfl
 |n::r,a,d,hl,hd=>by
  obtain⟨x,k,hx,hk,hn,hl⟩:=o_ hl;have hkk:bD T k=2:=by
   cases r with
   |nil=>
    have:k=d:=aaG Prod.fst hl;rw[this];exact hd
   |cons m s=>
    obtain⟨y,j,hy,hyk,_⟩:=o_ hl;rw[eP hy];exact hyk
  have h1:=(h.up a x hx _ (cZ hn)).2 hkk;have h2:=vk h r k d hl hd;simp only at h1;rw[List.length_cons];omega
theorem zq{T:aI}(hT:OkW T){a b k:Int}{x y:eG}{n m:Nm}(hx:aj a T=some x)(hn:aj n x.names=some k)(hy:aj b T=some y)(hm:aj m y.names=some k)(hk:bD T k=2):a=b∧n=m:=by
 obtain⟨z,hz,hzk⟩:=gT hk;have h0:=(hT.leads a x hx _ (cZ hn)).2;have hc:=hT.counts k z hz h0;rw[((hT.each k z hz).dir hzk).1]at hc;have h1:=rO hT.toDI hx hn k;rw[if_pos rfl]at h1;have h2:fF (aZ T a n) k=0:=by omega
 by_cases hab:b=a
 ·subst hab;rw[hx]at hy;cases hy;refine⟨rfl,?_⟩;by_cases hnm:m=n
  ·exact hnm.symm
  ·have hg:aj b (aZ T b n)=some {x with names:=bM n x.names}:=by unfold aZ;rw[bF,if_pos rfl,hx];rfl
   have hm':aj m (bM n x.names)=some k:=by rw[ou hnm];exact hm
   exact absurd rfl (CS h2 hg _ (cZ hm'))
 ·have hg:aj b (aZ T a n)=some y:=by unfold aZ;rw[bF,if_neg hab];exact hy
  exact absurd rfl (CS h2 hg _ (cZ hm))
theorem zu{T:aI}(hT:OkW T):∀(l:Nat) (p q:List Nm) (d:Int),p.length≤l→aG T 0 p=(d,0)→aG T 0 q=(d,0)→bD T d=2→p=q
 |l,p,q,d,hl,hp,hq,hd=>by
  by_cases h1:p=[]
  ·subst h1;by_cases h2:q=[]
   ·exact h2.symm
   ·obtain⟨d',x,n,-,-,hx,_,hn,_⟩:=fG hq h2;have h0:(0:Int)=d:=aaG Prod.fst hp;have:=(hT.leads d' x hx _ (cZ hn)).2;exact absurd h0.symm this
  ·obtain⟨d1,x,n,-,hl1,hx,hxk,hn,_,e1⟩:=fG hp h1;by_cases h2:q=[]
   ·subst h2;have h0:(0:Int)=d:=aaG Prod.fst hq;have:=(hT.leads d1 x hx _ (cZ hn)).2;exact absurd h0.symm this
   ·obtain⟨d2,y,m,-,hl2,hy,_,hm,_,e2⟩:=fG hq h2;obtain⟨hab,hnm⟩:=zq hT hx hn hy hm hd;subst hab hnm;have hlen:p.dropLast.length<p.length:=by
     rw[abq];have:p.length≠0:=fun e=>h1 (Pe e);omega
    match l,hl with
    |0,hl=>exact absurd (Pe (by omega)) h1
    |l+1,hl=>
     have:=zu hT l p.dropLast q.dropLast d1 (by omega) hl1 hl2 ((eP hx).trans hxk);rw[e1,e2,this]
def Nz(T:aI)(id d:Int):Prop:=∃q,aG T id q=(d,0)
theorem Qv{T:aI}(hT:fu T):∀(q:List Nm) (id d:Int) (x:eG) (e:Nm×Int) (n:Nat),aG T id q=(d,0)→aj d T=some x→e∈x.names→q.length<n→q.length+1≤rP T n id
 |[],id,d,x,e,n+1,hl,hx,he,hn=>by
  have:id=d:=aaG Prod.fst hl;subst this;have:1+rP T n e.2≤maxD (rP T n) (aX T id):=IZ _ (by rw[iW hx];exact he);show 0+1≤maxD (rP T n) (aX T id);omega
 |m::r,id,d,x,e,n+1,hl,hx,he,hn=>by
  obtain⟨y,k,hy,hyk,hm,hl⟩:=o_ hl;rw[List.length_cons]at hn;have h1:=Qv hT r k d x e n hl hx he (by omega);have:1+rP T n k≤maxD (rP T n) (aX T id):=IZ (rP T n) (e:=(m,k)) (by rw[iW hy];exact cZ hm);show(m::r).length+1≤maxD (rP T n) (aX T id);rw[List.length_cons];omega
 |q,_,_,_,_,0,_,_,_,hn=>by omega
def wh(p q:List Nm):Bool:=decide (p.take q.length=q)
def zw(T:aI)(p tq:List Nm):Int:=
 if wZ p tq≠0 then wZ p tq else
 if (aG T 0 p).2≠0 then(aG T 0 p).2 else
 if (aG T 0 p).1=0 then 1 else
 if (aQ T tq).2.2≠0 then(aQ T tq).2.2 else
 if bD T (aG T 0 p).1=2∧wh tq p=true then 1 else
 match aj (aQ T tq).2.1 (aX T (aQ T tq).1)with
 |some k=>if k=(aG T 0 p).1 then 0 else 21
 |none=>if 8<tq.length+rP T 8 (aG T 0 p).1 then 3 else 0
def KQ(T:aI)(p tq:List Nm):aI:=setName (aZ T (aQ T p).1 (aQ T p).2.1) (aQ T tq).1 (aQ T tq).2.1 (aG T 0 p).1
def wm(T:aI)(p tq:List Nm):Int×aI:=
 (zw T p tq,if zw T p tq=0∧(aj (aQ T tq).2.1 (aX T (aQ T tq).1)).isSome=false then KQ T p tq else T)
theorem fu.move{T:aI}(h:fu T){d1 d2 id:Int}{x1 x2:eG}{n1 n2:Nm}(hx1:aj d1 T=some x1)(hk1:x1.kind=2)(hn1:aj n1 x1.names=some id)(hx2:aj d2 T=some x2)(hk2:x2.kind=2)(hg2:dO n2=true)(hn2:aj n2 x2.names=none):
  fu (setName (aZ T d1 n1) d2 n2 id):=by
 have hid:=h.leads d1 x1 hx1 _ (cZ hn1);have hP:=h.toCw.cut (n:=n1) hx1 hk1;obtain⟨x3,hx3,hk3,D9⟩:∃x3,aj d2 (aZ T d1 n1)=some x3∧x3.kind=2∧aj n2 x3.names=none:=by
  unfold aZ;rw[bF];by_cases hd:d2=d1
  ·subst hd;rw[hx1]at hx2;cases hx2;rw[if_pos rfl,hx1];refine⟨_,rfl,hk1,?_⟩;show aj n2 (bM n1 x1.names)=none;rw[eZ];split
   ·rfl
   ·exact hn2
  ·rw[if_neg hd];exact⟨x2,hx2,hk2,hn2⟩
 have hid3:(aj id (aZ T d1 n1)).isSome=true:=by
  unfold aZ;rw[bF];split<;>simp[hid.1]
 refine⟨hP.set hx3 hk3 hg2 ⟨hid3,hid.2⟩,fun j z hz hj=> ?_⟩;have h1:=rO h.toCw hx1 hn1 j;have h2:=mY hP.sorted (fun x=>{x with names:=bX bytesBefore n2 id x.names}) hx3 j;have h3:=Nc (id:=id) D9 j;have e:fF (setName (aZ T d1 n1) d2 n2 id) j=fF T j:=by
  unfold setName;omega
 rw[e];unfold setName at hz;rw[bF]at hz;obtain⟨z1,hz1,hl1⟩:∃z1,aj j (aZ T d1 n1)=some z1∧z.links=z1.links:=by
  by_cases hjd:j=d2
  ·rw[if_pos hjd]at hz;cases hq:aj j (aZ T d1 n1)with
   |none=>rw[hq]at hz;cases hz
   |some z1=>
    rw[hq]at hz;simp only[aam,aag]at hz;exact⟨z1,rfl,by rw[←hz]⟩
  ·rw[if_neg hjd]at hz;exact⟨z,hz,rfl⟩
 obtain⟨z2,hz2,hl2,_⟩:=IX hz1;rw[hl1,hl2];exact h.counts j z2 hz2 hj
theorem KR{T:aI}(hT:fu T){id a k:Int}{x:eG}{n:Nm}(hx:aj a T=some x)(hn:aj n x.names=some k)(hk:bD T k=2)(hki:k≠id):Nz T id k↔Nz T id a:=by
 constructor
 ·rintro ⟨q,hq⟩;rcases List.eq_nil_or_concat q with rfl|⟨r,m,rfl⟩
  ·exact absurd (aaG Prod.fst hq).symm hki
  ·rw[List.concat_eq_append,iA]at hq;by_cases he:(aG T id r).2=0
   ·rw[if_pos he]at hq;obtain⟨y,j,hy,hyk,hm,hl⟩:=o_ hq;have:j=k:=aaG Prod.fst hl;subst this;obtain⟨hab,_⟩:=zq hT hx hn hy hm hk;exact⟨r,abk hab.symm he⟩
   ·rw[if_neg he]at hq;rw[hq]at he;exact absurd rfl he
 ·rintro ⟨q,hq⟩;refine⟨q++[n],?_⟩;rw[iA,hq];simp only[if_pos];have:=mZ hT hx (cZ hn);simp only[aG,hx,if_pos this,hn]
theorem D_{T:aI}{d1 d2 id:Int}{n1 n2:Nm}{a:Int}{x:eG}(h:aj a (setName (aZ T d1 n1) d2 n2 id)=some x):∃y,aj a T=some y∧x.kind=y.kind∧∀e∈x.names,(e∈y.names∧¬(a=d1∧e.1=n1))∨(a=d2∧e=(n2,id)):=by
 obtain⟨z,hz,hk,hc⟩:∃z,aj a (aZ T d1 n1)=some z∧x.kind=z.kind∧∀e∈x.names,e∈z.names∨(a=d2∧e=(n2,id)):=by
  unfold setName at h;rw[bF]at h;by_cases hd:a=d2
  ·rw[if_pos hd]at h;cases hz:aj a (aZ T d1 n1)with
   |none=>rw[hz]at h;cases h
   |some z=>
    rw[hz]at h;simp only[aam,aag]at h;refine⟨z,rfl,by rw[←h],fun e he=> ?_⟩;rw[←h]at he;rcases (pG bytesBefore).1 he with h2|h2
    ·exact .inr ⟨hd,h2⟩
    ·exact .inl (aax.1 h2).1
  ·rw[if_neg hd]at h;exact⟨x,h,rfl,fun e he=> .inl he⟩
 unfold aZ at hz;rw[bF]at hz;by_cases hd:a=d1
 ·rw[if_pos hd]at hz;cases hy:aj a T with
  |none=>rw[hy]at hz;cases hz
  |some y=>
   rw[hy]at hz;simp only[aam,aag]at hz;refine⟨y,rfl,by rw[hk,←hz],fun e he=> ?_⟩;rcases hc e he with h1|h1
   ·rw[←hz]at h1;have h2:=aax.1 h1;refine .inl ⟨h2.1,fun h3=> ?_⟩;have:=h2.2;simp[h3.2]at this
   ·exact .inr h1
 ·rw[if_neg hd]at hz;refine⟨z,hz,hk,fun e he=> ?_⟩;rcases hc e he with h1|h1
  ·exact .inl ⟨h1,fun h=>hd h.1⟩
  ·exact .inr h1
theorem AJ{T:aI}{d:Int}{f:eG→eG}(hf:∀x,(f x).kind=x.kind)(k:Int):bD (cu d f T) k=bD T k:=by
 unfold bD;rw[bF];by_cases h:k=d
 ·rw[if_pos h];cases aj k T with
  |none=>rfl
  |some y=>exact hf y
 ·rw[if_neg h]
theorem GZ{T:aI}{d1 d2 id:Int}{n1 n2:Nm}(k:Int):bD (setName (aZ T d1 n1) d2 n2 id) k=bD T k:=by
 unfold setName aZ;exact(AJ (fun _=>by exact rfl) k).trans (AJ (fun _=>by exact rfl) k)
open Classical in
theorem eH.move{T:aI}{dep:Int→Nat}(h:eH T dep)(hT:fu T){p tq:List Nm}{id dt:Int}{nt:Nm}(hp:aG T 0 p=(id,0))(h0:id≠0)(hto:aQ T tq=(dt,nt,0))(hf:tq.length≤8)(hw:bD T id=2→wh tq p=false∧tq.length+rP T 8 id≤8):
  ∃dep',eH (setName (aZ T (aQ T p).1 (aQ T p).2.1) dt nt id) dep':=by
 have hpn:p≠[]:=fun e=>by subst e;exact h0 (aaG Prod.fst hp).symm
 obtain⟨d1,x1,n1,e1,hl1,hx1,hk1,hn1,_,ep⟩:=fG hp hpn;rw[e1];obtain⟨hln,hlt,hkt⟩:tq≠[]∧aG T 0 tq.dropLast=(dt,0)∧bD T dt=2:=by
  unfold aQ at hto;by_cases ht0:tq=[]
  ·rw[if_pos ht0]at hto;cases hto
  ·rw[if_neg ht0]at hto;by_cases ht1:(aG T 0 tq.dropLast).2≠0
   ·rw[if_pos ht1]at hto;exact absurd (aaG (·.2.2) hto) ht1
   ·rw[if_neg ht1]at hto;by_cases ht2:bD T (aG T 0 tq.dropLast).1=2
    ·rw[if_pos ht2]at hto;have h3:(aG T 0 tq.dropLast).1=dt:=aaG Prod.fst hto;exact⟨ht0,abk h3 (by simpa using ht1),h3▸ht2⟩
    ·rw[if_neg ht2]at hto;cases hto
 have hdt:=vk h _ 0 dt hlt hkt;rw[h.zero,abq]at hdt;have htl:tq.length≠0:=fun e=>hln (Pe e);by_cases hk:bD T id=2
 ·obtain⟨hw1,hw2⟩:=hw hk;have hdid:=vk h p 0 id hp hk;rw[h.zero]at hdid;have hnt:¬Nz T id dt:=by
   rintro ⟨q,hq⟩;have h3:aG T 0 (p++q)=(dt,0):=by rw[iA,hp];simp only[if_pos];exact hq
   have h4:=zu hT _ _ _ dt ace hlt h3 hkt;have h5:tq.take p.length=p:=by
    have h6:tq.dropLast.take p.length=p:=by rw[h4,List.take_left]
    have h7:p.length≤tq.length-1:=by
     have:=aaG List.length h4;rw[abq,List.length_append]at this;omega
    rw[List.dropLast_eq_take,List.take_take,Nat.min_eq_left h7]at h6;exact h6
   unfold wh at hw1;rw[h5]at hw1;simp at hw1
  refine⟨fun d=>if Nz T id d then dep d+tq.length-p.length else dep d,?_,fun d x hx e he=> ?_⟩
  ·have:¬Nz T id 0:=by
    rintro ⟨q,hq⟩;have h3:aG T 0 (p++q)=(0,0):=by rw[iA,hp];simp only[if_pos];exact hq
    have h4:=zu hT 0 [] _ 0 ace rfl h3 hT.root;have:=aaG List.length h4;rw[List.length_append]at this;exact hpn (Pe (by simp at this;omega))
   simp only[if_neg this,h.zero]
  ·obtain⟨y,hy,hxy,hnm⟩:=D_ hx;rw[GZ];rcases hnm e he with⟨hey,hne⟩|⟨hd,hee⟩
   ·have hup:=h.up d y hy e hey;have hyk:=mZ hT hy hey;have hn:=bI Dx (hT.each d y hy).sorted hey;by_cases hD:Nz T id d
    ·obtain⟨q,hq⟩:=hD;have h3:=vk h q id d hq ((eP hy).trans hyk);have hq8:q.length<8:=by have:=hup.1;omega
     have h4:=Qv hT q id d y e 8 hq hy hey hq8;simp only[if_pos (show Nz T id d from⟨q,hq⟩)];refine⟨by omega,fun hek=> ?_⟩;have hei:e.2≠id:=fun h5=>by
      obtain⟨h6,h7⟩:=zq hT hx1 hn1 hy (by rw[←h5];exact hn) hk;exact hne ⟨h6.symm,h7.symm⟩
     have:=hup.2 hek;rw[if_pos ((KR hT hy hn hek hei).2 ⟨q,hq⟩)];omega
    ·simp only[if_neg hD];refine⟨hup.1,fun hek=> ?_⟩;have hei:e.2≠id:=fun h5=>by
      obtain⟨h6,h7⟩:=zq hT hx1 hn1 hy (by rw[←h5];exact hn) hk;exact hne ⟨h6.symm,h7.symm⟩
     rw[if_neg (fun h6=>hD ((KR hT hy hn hek hei).1 h6))];exact hup.2 hek
   ·subst hd hee;simp only[if_neg hnt];refine⟨by omega,fun _=> ?_⟩;rw[if_pos ⟨[],rfl⟩];omega
 ·refine⟨dep,h.zero,fun d x hx e he=> ?_⟩;obtain⟨y,hy,hxy,hnm⟩:=D_ hx;rw[GZ];rcases hnm e he with⟨hey,_⟩|⟨hd,hee⟩
  ·exact h.up d y hy e hey
  ·subst hd hee;exact⟨by omega,fun h3=>absurd h3 hk⟩
end Go.Proofs.YtmflaonodghbcaaGreatDoor
