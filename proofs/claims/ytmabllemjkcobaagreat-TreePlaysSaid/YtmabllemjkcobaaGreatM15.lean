/- Names that go: what holds of a tree behind Unlink, Rmdir; where a path's name stands. tree: Look, Unlink, Rmdir. -/
import Derived.Test.YtmabllemjkcobaaGreatM14
namespace Go.Proofs.YtmabllemjkcobaaGreat
open Go.ChangeShapes Go.WideShapes Go.ChangeAt Go.RowKit
set_option linter.unusedVariables false
set_option linter.unusedSimpArgs false
theorem gX (T:aG):∀(p q:List Nm) (a:Int),aH T a (p++q)=if (aH T a p).2=0 then aH T (aH T a p).1 q else aH T a p
 |[],q,a=>by simp[aH]
 |n::r,q,a=>by
  rcases Option.eq_none_or_eq_some (aj a T)with hx|⟨x,hx⟩
  ·simp[aH,hx]
  ·by_cases hk:x.kind=2
   ·rcases Option.eq_none_or_eq_some (aj n x.names)with hn|⟨k,hn⟩
    ·simp[aH,hx,hk,hn]
    ·simp only[List.cons_append,aH,hx,if_pos hk,hn]
     exact gX T r q k
   ·simp[aH,hx,hk]
theorem dB {T:aG} {p:List Nm} {id:Int} (h:aH T 0 p=(id,0)) (hp:p≠[]):∃d x n,aI T p=(d,n,0)∧aH T 0 p.dropLast=(d,0)∧aj d T=some x∧x.kind=2∧aj n x.names=some id∧n∈p∧p=p.dropLast++[n]:=by
 obtain⟨q,n,rfl⟩:∃q n,p=q++[n]:=⟨p.dropLast,p.getLast hp,(List.dropLast_concat_getLast hp).symm⟩
 rw[gX]at h
 have hd:(q++[n]).dropLast=q:=by simp
 have hl:(q++[n]).getLastD []=n:=by simp[List.getLastD_eq_getLast?]
 by_cases he:(aH T 0 q).2=0
 ·rw[if_pos he]at h
  obtain⟨⟨d,e0⟩,hq⟩:∃r,r=aH T 0 q:=⟨_,rfl⟩
  rw[←hq]at h he
  simp only at he
  subst he
  simp only[aH]at h
  cases hx:aj d T with
  |none=>rw[hx]at h;cases h
  |some x=>
   rw[hx]at h
   simp only at h
   by_cases hk:x.kind=2
   ·rw[if_pos hk]at h
    cases hn:aj n x.names with
    |none=>rw[hn]at h;cases h
    |some k=>
     rw[hn]at h
     simp only[Prod.mk.injEq,and_true]at h
     subst h
     refine⟨d,x,n,?_,by rw[hd,←hq],hx,hk,hn,by simp,by rw[hd]⟩
     unfold aI
     rw[if_neg hp,hd,hl,←hq,if_neg (by simp),if_pos ((bQ hx).trans hk)]
   ·rw[if_neg hk]at h;cases h
 ·rw[if_neg he]at h
  rw[h]at he
  exact absurd rfl he
theorem Nh {α:Type} {κ:Type} [DecidableEq κ] {lt:κ→κ→Bool} (L:nT lt) (P:κ×α→Bool) {l:List (κ×α)} (hs:aS lt l) {k:κ} {v:α} (hg:aj k l=some v):(bR k l).countP P+(if P (k,v)then 1 else 0)=l.countP P:=by
 induction l with
 |nil=>cases hg
 |cons y r ih=>
  have hp:=hs.apart L
  obtain⟨h1,h2⟩:=List.pairwise_cons.1 hp
  rw[fZ]at hg
  have WM:bR k (y::r)=if y.1=k then bR k r else y::bR k r:=by
   unfold bR
   rw[List.filter_cons]
   by_cases hy:y.1=k<;>simp[hy]
  rw[WM]
  by_cases hy:y.1=k
  ·rw[if_pos hy]at hg
   rw[if_pos hy]
   cases hg
   have hr:bR k r=r:=by
    unfold bR
    rw[List.filter_eq_self]
    intro q hq
    have:=h1 q hq
    simp only[Bool.not_eq_true',decide_eq_false_iff_not]
    exact fun e=>this (hy.trans e.symm)
   have e:(k,y.2)=y:=by rw[←hy]
   rw[hr,List.countP_cons,e]
  ·rw[if_neg hy]at hg
   rw[if_neg hy,List.countP_cons,List.countP_cons]
   have:=ih (List.pairwise_cons.1 hs).2 hg
   omega
theorem TY {x:bW} (h:JI x) {n:Nm} {id:Int} (hn:aj n x.names=some id) (k:Int):cn k {x with names:=bR n x.names}+(if id=k then 1 else 0)=cn k x:=by
 have:=Nh l8 (fun e:Nm×Int=>decide (e.2=k)) h.sorted hn
 unfold cn
 simp only[decide_eq_true_eq]at this
 exact this
theorem Qw {x:bW} (h:JI x) (n:Nm) (hk:x.kind=2):JI {x with names:=bR n x.names}:=by
 refine⟨h.kind,fun h1=> ?_,h.dir,h.gone,h.sorted.bR _,fun e he=>h.good e (List.mem_filter.1 he).1,h.size,h.links,h.aQ⟩
 have:x.kind=1:=h1
 omega
theorem yQ.cut {T:aG} (h:yQ T) {d:Int} {x:bW} {n:Nm} (hx:aj d T=some x) (hk:x.kind=2):yQ (aF T d n):=
 h.bH hx (Qw (h.each d x hx) n hk) rfl (fun e he=>h.leads d x hx e (List.mem_filter.1 he).1)
theorem yQ.del {T:aG} (h:yQ T) {k:Int} {x:bW} (hx:aj k T=some x) (h0:k≠0) (hc:gy T k=0):yQ (bR k T):=by
 have hget:∀j y,aj j (bR k T)=some y→j≠k∧aj j T=some y:=fun j y hy=>by
  rw[fO]at hy
  by_cases hj:j=k
  ·rw[if_pos hj]at hy;cases hy
  ·rw[if_neg hj]at hy;exact⟨hj,hy⟩
 refine⟨h.sorted.bR _,?_,fun j y hy=>h.each j y (hget j y hy).2,fun j y hy e he=> ?_,?_,fun j y hy=>h.ids j y (hget j y hy).2⟩
 ·have hr:=h.root
  unfold bO at hr⊢
  rw[fO,if_neg (Ne.symm h0)]
  exact hr
 ·have h1:=h.leads j y (hget j y hy).2 e he
  have h2:=yZ hc (hget j y hy).2 e he
  rw[fO,if_neg h2]
  exact h1
 ·have:=rV dU h.sorted hx
  have:=h.len
  omega
theorem qd {T:aG} (h:yQ T) {d id:Int} {x:bW} {n:Nm} (hx:aj d T=some x) (hn:aj n x.names=some id) (j:Int):gy (aF T d n) j+(if id=j then 1 else 0)=gy T j:=by
 have h1:=lg h.sorted (fun x=>{x with names:=bR n x.names}) hx j
 have h2:=TY (h.each d x hx) hn j
 unfold aF
 omega
theorem D7 {T:aG} {d j:Int} {n:Nm} {y:bW} (hy:aj j (aF T d n)=some y):∃z,aj j T=some z∧y.links=z.links∧y.kind=z.kind∧y.closed=z.closed∧y.b=z.b∧(j≠d→y=z):=by
 unfold aF at hy
 rw[bq]at hy
 by_cases hj:j=d
 ·rw[if_pos hj]at hy
  cases hz:aj j T with
  |none=>rw[hz]at hy;cases hy
  |some z=>
   rw[hz]at hy
   simp only[Option.map_some,Option.some.injEq]at hy
   subst hy
   exact⟨z,rfl,rfl,rfl,rfl,rfl,fun h=>absurd hj h⟩
 ·rw[if_neg hj]at hy
  exact⟨y,hy,rfl,rfl,rfl,rfl,fun _=>rfl⟩
theorem dX.JX {T:aG} (h:dX T) {d id:Int} {x y:bW} {n:Nm} (hx:aj d T=some x) (hk:x.kind=2) (hn:aj n x.names=some id) (hy:aj id T=some y) (hid:id≠d) (h0:id≠0) (hyn:y.names=[]) (hl:y.links=1):dX (bR id (aF T d n)):=by
 have hP:=h.toyQ.cut (n:=n) hx hk
 have hy1:aj id (aF T d n)=some y:=by unfold aF;rw[bq,if_neg hid];exact hy
 have hc:=h.counts id y hy h0
 have h1:=qd h.toyQ hx hn id
 rw[if_pos rfl]at h1
 refine⟨hP.del hy1 h0 (by omega),fun j z hz hj=> ?_⟩
 have hji:j≠id:=fun e=>by subst e;rw[nS]at hz;cases hz
 rw[fO,if_neg hji]at hz
 obtain⟨z',hz',hl',_⟩:=D7 hz
 have h2:=qd h.toyQ hx hn j
 rw[if_neg (Ne.symm hji)]at h2
 have h3:=wY hP.sorted hy1 j
 have h4:cn j y=0:=by unfold cn;rw[hyn];rfl
 have:=h.counts j z' hz' hj
 omega
theorem dX.Ni {T:aG} (h:dX T) {d id:Int} {x y:bW} {n:Nm} (hx:aj d T=some x) (hk:x.kind=2) (hn:aj n x.names=some id) (hy:aj id T=some y) (hyk:y.kind≠2):
  dX (fT (Go.Proofs.YtmabllemjkcobaaGreat.bH id (fun x=>{x with links:=x.links-1}) (aF T d n)) id):=by
 have hoy:=h.each id y hy
 have h0:=h.tK hy hyk
 have hid:id≠d:=fun e=>by subst e;rw[hx]at hy;cases hy;exact hyk hk
 have hk1:=hoy.kind.resolve_right hyk
 have hyn:=hoy.file hk1
 have hP:=h.toyQ.cut (n:=n) hx hk
 have hy1:aj id (aF T d n)=some y:=by unfold aF;rw[bq,if_neg hid];exact hy
 have hg:aj id (Go.Proofs.YtmabllemjkcobaaGreat.bH id (fun x=>{x with links:=x.links-1}) (aF T d n))=some {y with links:=y.links-1}:=by rw[bq,if_pos rfl,hy1];rfl
 have hcy:=h.counts id y hy h0
 have h1:=qd h.toyQ hx hn id
 rw[if_pos rfl]at h1
 unfold fT
 rw[hg]
 simp only
 by_cases hc:y.links-1=0∧y.closed=true
 ·rw[if_pos hc]
  have e:bR id (Go.Proofs.YtmabllemjkcobaaGreat.bH id (fun x=>{x with links:=x.links-1}) (aF T d n))=bR id (aF T d n):=by
   generalize aF T d n=L
   unfold bR Go.Proofs.YtmabllemjkcobaaGreat.bH
   induction L with
   |nil=>rfl
   |cons y r ih=>
    rw[List.map_cons,List.filter_cons,List.filter_cons,ih]
    by_cases hy:y.1=id<;>simp[hy]
  rw[e]
  exact h.JX hx hk hn hy hid h0 hyn (by omega)
 ·rw[if_neg hc]
  refine⟨hP.bH (f:=fun x=>{x with links:=x.links-1}) hy1 ⟨hoy.kind,hoy.file,fun h=>absurd h hyk,fun h=> ?_,hoy.sorted,hoy.good,hoy.size,?_,hoy.aQ⟩ rfl (hP.leads id y hy1),fun j z hz hj=> ?_⟩
  ·cases hcl:y.closed with
   |true=>exact absurd ⟨h,hcl⟩ hc
   |false=>rfl
  ·have:=hoy.links
   simp only
   omega
  ·have h3:=lg hP.sorted (fun x=>{x with links:=x.links-1}) hy1 j
   have h3':cn j {y with links:=y.links-1}=cn j y:=rfl
   have h4:=qd h.toyQ hx hn j
   rw[bq]at hz
   by_cases hji:j=id
   ·subst hji
    rw[if_pos rfl,hy1]at hz
    simp only[Option.map_some,Option.some.injEq]at hz
    rw[if_pos rfl]at h4
    rw[←hz]
    simp only
    omega
   ·rw[if_neg hji]at hz
    rw[if_neg (Ne.symm hji)]at h4
    obtain⟨z',hz',hl',_⟩:=D7 hz
    have:=h.counts j z' hz' hj
    omega
theorem D8 {T:aG} {p:List Nm} (h:iK T p=0):bS p=0∧(aH T 0 p).2=0∧bO T (aH T 0 p).1≠2:=by
 unfold iK fE at h
 by_cases h1:bS p≠0
 ·rw[if_pos h1]at h
  simp only[if_pos h1]at h
  exact absurd h h1
 ·rw[if_neg h1]at h
  by_cases h2:(aH T 0 p).2≠0
  ·rw[if_pos h2]at h;exact absurd h h2
  ·rw[if_neg h2]at h
   by_cases h3:bO T (aH T 0 p).1=2
   ·rw[if_pos h3]at h;cases h
   ·exact⟨by omega,by omega,h3⟩
theorem dX.bT {T:aG} (h:dX T) (p:List Nm):dX (bT T p).2:=by
 unfold Go.Proofs.YtmabllemjkcobaaGreat.bT
 by_cases he:iK T p=0
 ·simp only[if_pos he]
  obtain⟨h1,h2,h3⟩:=D8 he
  obtain⟨y,hy⟩:=Option.isSome_iff_exists.1 (fP h p 0 (eF h) h2)
  have hp:p≠[]:=fun e=>by subst e;exact h3 h.root
  obtain⟨d,x,n,e1,_,hx,hk,hn,_⟩:=dB (id:=(aH T 0 p).1) (Prod.ext rfl h2) hp
  rw[bQ hy]at h3
  unfold pX
  rw[e1]
  exact h.Ni hx hk hn hy h3
 ·simp only[if_neg he];exact h
theorem Fe {T:aG} {p:List Nm} (h:iQ T p=0):bS p=0∧(aH T 0 p).2=0∧bO T (aH T 0 p).1=2∧(aH T 0 p).1≠0∧aX T (aH T 0 p).1=[]:=by
 unfold iQ fE at h
 by_cases h1:bS p≠0
 ·rw[if_pos h1]at h
  simp only[if_pos h1]at h
  exact absurd h h1
 ·rw[if_neg h1]at h
  by_cases h2:(aH T 0 p).2≠0
  ·rw[if_pos h2]at h;exact absurd h h2
  ·rw[if_neg h2]at h
   by_cases h3:bO T (aH T 0 p).1≠2
   ·rw[if_pos h3]at h;cases h
   ·rw[if_neg h3]at h
    by_cases h4:(aH T 0 p).1=0
    ·rw[if_pos h4]at h;cases h
    ·rw[if_neg h4]at h
     by_cases h5:0<(aX T (aH T 0 p).1).length
     ·rw[if_pos h5]at h;cases h
     ·exact⟨by omega,by omega,by omega,h4,List.eq_nil_of_length_eq_zero (by omega)⟩
theorem dX.dG {T:aG} (h:dX T) (p:List Nm):dX (dG T p).2:=by
 unfold Go.Proofs.YtmabllemjkcobaaGreat.dG
 by_cases he:iQ T p=0
 ·simp only[if_pos he]
  obtain⟨h1,h2,h3,h4,h5⟩:=Fe he
  obtain⟨y,hy⟩:=Option.isSome_iff_exists.1 (fP h p 0 (eF h) h2)
  have hp:p≠[]:=fun e=>by subst e;exact h4 rfl
  obtain⟨d,x,n,e1,_,hx,hk,hn,_⟩:=dB (id:=(aH T 0 p).1) (Prod.ext rfl h2) hp
  have hyn:y.names=[]:=by unfold aX at h5;rw[hy]at h5;exact h5
  rw[bQ hy]at h3
  unfold vv
  rw[e1]
  refine h.JX hx hk hn hy (fun e=> ?_) h4 hyn ((h.each _ y hy).dir h3).1
  rw[e,hx]at hy
  cases hy
  rw[hyn]at hn
  cases hn
 ·simp only[if_neg he];exact h
section
variable {g:Nat→Own} {D:Nat→Prop} {p mb:Nat} {ib nb:Int→Nat} {T:aG}
set_option maxHeartbeats 2000000 in
theorem JY {S:Nat→Prop} (a:Option Addr) (n c:Nat) (ls:List Nm) (w:World) (h:aO g D w p mb ib nb T) (hT:dX T) (hS:aK S w a n (ls.map strOf)):
  Calls Tryz.prog 119 #[ptr p, .slice a n c] w fun e w'=>e= .returned (.tuple #[.int .i64 (fE T ls).1, .int .i64 (fE T ls).2])∧Below w.heap.size w w':=by
 have HF:=Lib.hid (vG (S:=S) a n c ls w hS)
 have mZ:=Lib.hid (fun w1 (hb:Below w.heap.size w w1)=>qc a n c ls w1 (h.below hb (Nat.le_refl _)) hT (hS.below hb (Nat.le_refl _)))
 clear h hT hS
 by_cases hf:bS ls=0
 ·have HE:Hid (fE T ls=aH T 0 ls):=by unfold fE;rw[if_neg (by rw[hf];simp)];exact rfl
  rw[hf]at HF
  clear hf
  go_enter Tryz.func119,Tryz.ntmps119
  go_wp2_with fail
  (with_reducible refine HF.out.mono ?_)
  rintro e w1 ⟨rfl,hb1⟩
  have HB1:=Lib.hid hb1
  clear hb1
  go_wp2_with fail
  (with_reducible refine(mZ.out w1 HB1.out).mono ?_)
  rintro e w2 ⟨rfl,rfl⟩
  go_wp2_with fail
  go_ret2
  rw[HE.out]
  exact⟨rfl,HB1.out⟩
 ·have HE:Hid (fE T ls=(0,bS ls)):=by unfold fE;rw[if_pos hf];exact rfl
  have hne:(bS ls==0)=false:=by simpa using hf
  have hne2:(bS ls !=0)=true:=by simpa using hf
  clear hf
  go_enter Tryz.func119,Tryz.ntmps119
  go_wp2_with fail
  (with_reducible refine HF.out.mono ?_)
  rintro e w1 ⟨rfl,hb1⟩
  have HB1:=Lib.hid hb1
  clear hb1
  go_wp2_with fail
  go_ret2
  rw[HE.out]
  exact⟨rfl,HB1.out⟩
theorem zK {S:Nat→Prop} {d:Int} {nm:Nm} (a:Option Addr) (n c:Nat) (ls:List Nm) (w:World) (h:aO g D w p mb ib nb T) (hT:dX T) (hS:aK S w a n (ls.map strOf)) (hc:n≤c) (kV:n≤1000000) (hp:aI T ls=(d,nm,0)):
  Calls Tryz.prog 65 #[ptr p, .slice a n c] w fun e w'=>e= .returned (.tuple #[ptr (ib d), .string (strOf nm), .int .i64 0])∧Below w.heap.size w w':=by
 have:=tC a n c ls w h hT hS hc kV
 unfold nZ at this
 rw[hp]at this
 exact this
theorem kC {w:World} {d:Int} {x:bW} (h:aO g D w p mb ib nb T) (hx:aj d T=some x) (hk:x.kind=2):w.cell? ⟨ib d,7,none⟩=some (.map (some (nb d)))∧MapAt dN w (nb d) (cO x):=by
 have hi:=h.item d x hx
 obtain⟨_,_,_,_,_,_,c7,_⟩:=hi.cell
 unfold gF at c7
 rw[if_pos hk]at c7
 exact⟨c7,hi.names hk⟩
theorem Nj {nm:Nm} (h:dw nm=true):dN.ok nm:=by
 have:=n_ nm h
 show nm.length≤maxLen
 unfold maxLen;omega
theorem D9 {w w':World} {d:Int} {x:bW} {n:Nm} (h:aO g D w p mb ib nb T) (hx:aj d T=some x) (hk:x.kind=2) (hM:MapAt dN w' (nb d) (bR n (cO x))) (hT:w.mapTurned w' (nb d)):aO g D w' p mb ib nb (aF T d n)∧Keeps (fun b=>g b≠ .none) w w':=
 ⟨h.cut hx hk hM hT,(gW hT).mono fun b _ hb=>by rw[show b=nb d from hb,h.kZ d x hx hk];simp⟩
theorem kD {w w':World} {fp:Nat→Prop} (hb:Below w.heap.size w w'):Keeps fp w w':=(Keeps.below hb).mono fun b hb hb'=>absurd hb (by omega)
set_option maxRecDepth 100000 in
set_option maxHeartbeats 8000000 in
theorem Cz {S:Nat→Prop} (a:Option Addr) (n c:Nat) (ls:List Nm) (w:World) (h:aO g D w p mb ib nb T) (hT:dX T) (hS:aK S w a n (ls.map strOf)) (hc:n≤c) (kV:n≤1000000):
  Calls Tryz.prog 19 #[ptr p, .slice a n c] w (Turn g D w p mb (bT T ls).2 (.int .i64 (bT T ls).1)):=by
 have HH:=Lib.hid h
 have HT:=Lib.hid hT
 have HS:=Lib.hid hS
 have HF:=Lib.hid (vG (S:=S) a n c ls w hS)
 have mZ:=Lib.hid (fun w1 (hb:Below w.heap.size w w1)=>qc a n c ls w1 (h.below hb (Nat.le_refl _)) hT (hS.below hb (Nat.le_refl _)))
 clear h hT hS
 by_cases hf:bS ls=0
 ·have zD:=Lib.hid hf
  rw[hf]at HF
  clear hf
  have Cw:Hid (fE T ls=aH T 0 ls):=by unfold fE;rw[if_neg (by rw[zD.out];simp)];exact rfl
  obtain⟨⟨id,e0⟩,hq⟩:∃q,q=aH T 0 ls:=⟨_,rfl⟩
  have HQ:=Lib.hid hq
  rw[←hq]at mZ Cw
  clear hq
  by_cases he:e0=0
  ·subst he
   obtain⟨y,hy⟩:=Option.isSome_iff_exists.1 (qN HQ.out.symm HT.out)
   have HY:=Lib.hid hy
   have lq:=HT.out.ids id y hy
   have hok:bC.ok id:=mh lq.1 (by omega)
   have HG:Hid (aj id (T.map fun q=>(q.1,ptr (ib q.1)))=some (ptr (ib id))):=by rw[dR,hy];rfl
   have HIT:Hid (∀w1,Below w.heap.size w w1→w1.cell? ⟨p,0,none⟩=some (.map (some mb))∧MapAt bC w1 mb (T.map fun q=>(q.1,ptr (ib q.1)))∧w1.cell? ⟨ib id,1,none⟩=some (.int .i64 y.kind)):=fun w1 hb=>by
    have h2:=HH.out.below hb (Nat.le_refl _)
    obtain⟨_,c1,c2,_⟩:=(h2.item id y HY.out).cell
    exact⟨h2.cell.1,h2.map,c1⟩
   clear hy
   by_cases hk:y.kind=2
   ·have HM:Hid (bT T ls=(22,T)):=by
     have:iK T ls=22:=by
      unfold iK
      rw[Cw.out,←HQ.out,if_neg (by simp),if_pos ((bQ HY.out).trans hk)]
     unfold bT;rw[this]<;>exact rfl
    go_enter Tryz.func19,Tryz.ntmps19
    go_wp2_with fail
    (with_reducible refine HF.out.mono ?_)
    rintro e w1 ⟨rfl,hb1⟩
    have HB1:=Lib.hid hb1
    clear hb1
    go_wp2_with fail
    (with_reducible refine(mZ.out w1 HB1.out).mono ?_)
    rintro e w2 ⟨rfl,rfl⟩
    obtain⟨c0,hmap,c1⟩:=HIT.out w1 HB1.out
    rw[hk]at c1
    have gG:=Lib.hid hmap
    clear hmap
    go_wp2_with (first|(at_lookup;refine aW bC rfl _ _ 101 99 rfl Tryz.underlying101 (Tryz.bA _) rfl gG.out id rfl hok ?_;rw[HG.out]))
    go_ret
    rw[HM.out]
    exact Turn.same HH.out HB1.out rfl
   ·have hkk:(y.kind==2)=false:=by simpa using hk
    have hp:ls≠[]:=fun e=>by
     have h1:id=0:=congrArg Prod.fst (HQ.out.trans (by rw[e]<;>exact(rfl:aH T 0 []=(0,0))))
     have:=HT.out.root
     rw[←h1,bQ HY.out]at this
     exact hk this
    obtain⟨d,x,nm,e1,-,hx,hxk,hn,hmem,-⟩:=dB HQ.out.symm hp
    have DY:=Lib.hid (iR zD.out _ hmem)
    have kN:=Nj DY.out
    have HM:Hid (bT T ls=(0,fT (bH id (fun x=>{x with links:=x.links-1}) (aF T d nm)) id)):=by
     have:iK T ls=0:=by
      unfold iK
      rw[Cw.out,←HQ.out,if_neg (by simp),if_neg (by rw[bQ HY.out];exact hk)]
     unfold bT pX;rw[this,←HQ.out,e1];exact rfl
    have uj:=Lib.hid (fun w1 (hb:Below w.heap.size w w1)=>zK a n c ls w1 (HH.out.below hb (Nat.le_refl _)) HT.out (HS.out.below hb (Nat.le_refl _)) hc kV e1)
    have HX:=Lib.hid hx
    have BM:=Lib.hid hxk
    have hdi:id≠d:=fun e=>by subst e;rw[HY.out]at hx;cases hx;exact hk hxk
    have YK:=Lib.hid hdi
    have jT:=Lib.hid (fun w2 (hb:Below w.heap.size w w2)=>kC (HH.out.below hb (Nat.le_refl _)) hx hxk)
    have Zi:Hid ((Lit.int .i64 id).wf=true):=hok
    have hln:=(HT.out.each id y HY.out).links
    clear hk hp e1 hx hxk hn hmem hdi
    go_enter Tryz.func19,Tryz.ntmps19
    go_wp2_with fail
    (with_reducible refine HF.out.mono ?_)
    rintro e w1 ⟨rfl,hb1⟩
    have HB1:=Lib.hid hb1
    clear hb1
    go_wp2_with fail
    (with_reducible refine(mZ.out w1 HB1.out).mono ?_)
    rintro e w2 ⟨rfl,rfl⟩
    obtain⟨c0,hmap,c1⟩:=HIT.out w1 HB1.out
    have gG:=Lib.hid hmap
    clear hmap
    go_wp2_with (first|(at_lookup;refine aW bC rfl _ _ 101 99 rfl Tryz.underlying101 (Tryz.bA _) rfl gG.out id rfl hok ?_;rw[HG.out]))
    (with_reducible refine(uj.out w1 HB1.out).mono ?_)
    rintro e w2 ⟨rfl,hb2⟩
    have HB2:=Lib.hid (HB1.out.trans (hb2.mono HB1.out.size))
    clear hb2
    obtain⟨d7,fI⟩:=jT.out w2 HB2.out
    have mK:=Lib.hid fI
    have HA2:=Lib.hid (HH.out.below HB2.out (Nat.le_refl _))
    clear fI
    have D_:Hid (∀w3,MapAt dN w3 (nb d) (bR nm (cO x))→w2.mapTurned w3 (nb d)→(aO g D w3 p mb ib nb (aF T d nm)∧Keeps (fun b=>g b≠ .none) w2 w3)∧aj id (aF T d nm)=some y∧w3.cell? ⟨ib id,2,none⟩=some (.int .i64 y.links)∧w3.frozen? ⟨ib id,2,none⟩=false):=fun w3 hM Qs=>by
     have h3:=D9 HA2.out HX.out BM.out hM Qs
     have hy3:aj id (aF T d nm)=some y:=by unfold aF;rw[bq,if_neg YK.out];exact HY.out
     exact⟨h3,hy3,(h3.1.item id y hy3).cell.2.2.1,(h3.1.item id y hy3).frozen 2⟩
    go_wp2_with (at_delete;refine jS dN rfl _ _ 112 3 rfl Tryz.underlying112 rfl mK.out nm rfl kN ?_;intro w3 WO SI;obtain⟨hA3,hy3,g2,ME⟩:=D_.out w3 WO SI;have Qx:=Lib.hid hA3;have Wd:=Lib.hid hy3;clear hA3 WO SI hy3)
    have hA3:=Qx.out
    have hgi:=HH.out.nY id y HY.out
    have EC:aO g D (w3.setCell ⟨ib id,2,none⟩ (.int .i64 (y.links-1))) p mb ib nb (bH id (fun x=>{x with links:=x.links-1}) (aF T d nm)):=
     hA3.1.fields Wd.out (fun x=>{x with links:=x.links-1}) rfl rfl rfl (Keeps.jm w3 ⟨ib id,2,none⟩ _) (by rw[size_set]) fun a c hc=>by rw[dL hc];rfl
    have hy4:aj id (bH id (fun x=>{x with links:=x.links-1}) (aF T d nm))=some {y with links:=y.links-1}:=by rw[bq,if_pos rfl,Wd.out];rfl
    have G8:Hid (Keeps (fun b=>g b≠ .none) w (w3.setCell ⟨ib id,2,none⟩ (.int .i64 (y.links-1)))):=
     ((kD HB2.out).trans hA3.2 (fun _ _ h=>h)).trans ((Keeps.jm w3 ⟨ib id,2,none⟩ _).mono fun b _ hb=>by rw[show b=ib id from hb,hgi];simp) (fun _ _ h=>h)
    have TV:=Lib.hid (zF id hy4 Zi.out _ EC)
    have HGM:=Lib.hid HH.out.jN
    clear hA3 hgi EC hy4
    (with_reducible refine TV.out.mono ?_)
    rintro e w5 ⟨rfl,ED,u7,_⟩
    have TW:=Lib.hid ED
    have KV:=Lib.hid u7
    clear ED u7
    go_wp2_with fail
    go_ret
    rw[HM.out]
    exact Turn.of rfl TW.out (G8.out.trans (KV.out.mono fun b _ hb=>by rw[show b=mb from hb,HGM.out];simp) (fun _ _ h=>h))
  ·have hne:(e0==0)=false:=by simpa using he
   have hne2:(e0 !=0)=true:=by simpa using he
   have HM:Hid (bT T ls=(e0,T)):=by
    have:iK T ls=e0:=by
     unfold iK
     rw[Cw.out,if_pos he]
    unfold bT;rw[this,if_neg he];exact rfl
   clear he
   go_enter Tryz.func19,Tryz.ntmps19
   go_wp2_with fail
   (with_reducible refine HF.out.mono ?_)
   rintro e w1 ⟨rfl,hb1⟩
   have HB1:=Lib.hid hb1
   clear hb1
   go_wp2_with fail
   (with_reducible refine(mZ.out w1 HB1.out).mono ?_)
   rintro e w2 ⟨rfl,rfl⟩
   go_wp2_with fail
   go_ret
   rw[HM.out]
   exact Turn.same HH.out HB1.out rfl
 ·have HM:Hid (bT T ls=(bS ls,T)):=by
   have:iK T ls=bS ls:=by unfold iK fE;rw[if_pos hf,if_pos hf]
   unfold bT;rw[this,if_neg hf];exact rfl
  have hne:(bS ls==0)=false:=by simpa using hf
  have hne2:(bS ls !=0)=true:=by simpa using hf
  clear hf
  go_enter Tryz.func19,Tryz.ntmps19
  go_wp2_with fail
  (with_reducible refine HF.out.mono ?_)
  rintro e w1 ⟨rfl,hb1⟩
  go_wp2_with fail
  go_ret
  rw[HM.out]
  exact Turn.same HH.out hb1 rfl
set_option maxRecDepth 100000 in
set_option maxHeartbeats 8000000 in
theorem Fg {S:Nat→Prop} (a:Option Addr) (n c:Nat) (ls:List Nm) (w:World) (h:aO g D w p mb ib nb T) (hT:dX T) (hS:aK S w a n (ls.map strOf)) (hc:n≤c) (kV:n≤1000000):
  Calls Tryz.prog 15 #[ptr p, .slice a n c] w (Turn g D w p mb (dG T ls).2 (.int .i64 (dG T ls).1)):=by
 have HH:=Lib.hid h
 have HT:=Lib.hid hT
 have HS:=Lib.hid hS
 have HF:=Lib.hid (vG (S:=S) a n c ls w hS)
 have mZ:=Lib.hid (fun w1 (hb:Below w.heap.size w w1)=>qc a n c ls w1 (h.below hb (Nat.le_refl _)) hT (hS.below hb (Nat.le_refl _)))
 clear h hT hS
 by_cases hf:bS ls=0
 ·have zD:=Lib.hid hf
  rw[hf]at HF
  clear hf
  have Cw:Hid (fE T ls=aH T 0 ls):=by unfold fE;rw[if_neg (by rw[zD.out];simp)];exact rfl
  obtain⟨⟨id,e0⟩,hq⟩:∃q,q=aH T 0 ls:=⟨_,rfl⟩
  have HQ:=Lib.hid hq
  rw[←hq]at mZ Cw
  clear hq
  by_cases he:e0=0
  ·subst he
   obtain⟨y,hy⟩:=Option.isSome_iff_exists.1 (qN HQ.out.symm HT.out)
   have HY:=Lib.hid hy
   have lq:=HT.out.ids id y hy
   have hok:bC.ok id:=mh lq.1 (by omega)
   have HG:Hid (aj id (T.map fun q=>(q.1,ptr (ib q.1)))=some (ptr (ib id))):=by rw[dR,hy];rfl
   have HIT:Hid (∀w1,Below w.heap.size w w1→w1.cell? ⟨p,0,none⟩=some (.map (some mb))∧MapAt bC w1 mb (T.map fun q=>(q.1,ptr (ib q.1)))∧w1.cell? ⟨ib id,1,none⟩=some (.int .i64 y.kind)):=fun w1 hb=>by
    have h2:=HH.out.below hb (Nat.le_refl _)
    obtain⟨_,c1,c2,_⟩:=(h2.item id y HY.out).cell
    exact⟨h2.cell.1,h2.map,c1⟩
   clear hy
   by_cases hk:y.kind=2
   ·rw[hk]at HIT
    have TU:=Lib.hid hk
    clear hk
    by_cases h0:id=0
    ·have HM:Hid (dG T ls=(1,T)):=by
      have:iQ T ls=1:=by
       unfold iQ
       rw[Cw.out,←HQ.out,if_neg (by simp),if_neg (by rw[bQ HY.out,TU.out];simp),if_pos h0]
      unfold dG;rw[this]<;>exact rfl
     have hd0:(id==0)=true:=by simpa using h0
     clear h0
     go_enter Tryz.func15,Tryz.ntmps15
     go_wp2_with fail
     (with_reducible refine HF.out.mono ?_)
     rintro e w1 ⟨rfl,hb1⟩
     have HB1:=Lib.hid hb1
     clear hb1
     go_wp2_with fail
     (with_reducible refine(mZ.out w1 HB1.out).mono ?_)
     rintro e w2 ⟨rfl,rfl⟩
     obtain⟨c0,hmap,c1⟩:=HIT.out w1 HB1.out
     have gG:=Lib.hid hmap
     clear hmap
     go_wp2_with (first|(at_lookup;refine aW bC rfl _ _ 101 99 rfl Tryz.underlying101 (Tryz.bA _) rfl gG.out id rfl hok ?_;rw[HG.out]))
     go_ret
     rw[HM.out]
     exact Turn.same HH.out HB1.out rfl
    ·have hd0:(id==0)=false:=by simpa using h0
     have Fh:=Lib.hid h0
     have Nk:=Lib.hid (fun w2 (hb:Below w.heap.size w w2)=>kC (HH.out.below hb (Nat.le_refl _)) HY.out TU.out)
     have JM:Hid ((cO y).length=y.names.length):=by unfold cO;rw[List.length_map]<;>exact rfl
     clear h0
     by_cases hfull:0<y.names.length
     ·have HM:Hid (dG T ls=(24,T)):=by
       have hnm:aX T id=y.names:=by unfold aX;rw[HY.out]
       have:iQ T ls=24:=by
        unfold iQ
        rw[Cw.out,←HQ.out,if_neg (by simp),if_neg (by rw[bQ HY.out,TU.out];simp),if_neg Fh.out,hnm,if_pos hfull]
       unfold dG;rw[this]<;>exact rfl
      have hd:decide ((0:Int)<(y.names.length:Int))=true:=by simp;omega
      have hd2:decide (0<y.names.length)=true:=by simpa using hfull
      go_enter Tryz.func15,Tryz.ntmps15
      go_wp2_with fail
      (with_reducible refine HF.out.mono ?_)
      rintro e w1 ⟨rfl,hb1⟩
      have HB1:=Lib.hid hb1
      clear hb1
      go_wp2_with fail
      (with_reducible refine(mZ.out w1 HB1.out).mono ?_)
      rintro e w2 ⟨rfl,rfl⟩
      obtain⟨c0,hmap,c1⟩:=HIT.out w1 HB1.out
      have gG:=Lib.hid hmap
      clear hmap
      obtain⟨y7,hyn⟩:=Nk.out w1 HB1.out
      have T9:=Lib.hid hyn
      clear hyn
      go_wp2_with (first|(at_lookup;refine aW bC rfl _ _ 101 99 rfl Tryz.underlying101 (Tryz.bA _) rfl gG.out id rfl hok ?_;rw[HG.out])|(at_len;refine iJ dN rfl _ 112 3 rfl Tryz.underlying112 rfl T9.out ?_;rw[JM.out]))
      go_ret
      rw[HM.out]
      exact Turn.same HH.out HB1.out rfl
     ·have HNY:Hid (y.names=[]):=by
       have:y.names=[]:=List.eq_nil_of_length_eq_zero (by omega)
       exact this
      have hn0:y.names.length=0:=by omega
      have HN0:=Lib.hid hn0
      have hp:ls≠[]:=fun e=>by
       have h1:id=0:=congrArg Prod.fst (HQ.out.trans (by rw[e]<;>exact(rfl:aH T 0 []=(0,0))))
       exact Fh.out h1
      obtain⟨d,x,nm,e1,-,hx,hxk,hn,hmem,-⟩:=dB HQ.out.symm hp
      have DY:=Lib.hid (iR zD.out _ hmem)
      have kN:=Nj DY.out
      have HM:Hid (dG T ls=(0,bR id (aF T d nm))):=by
       have hnm:aX T id=y.names:=by unfold aX;rw[HY.out]
       have:iQ T ls=0:=by
        unfold iQ
        rw[Cw.out,←HQ.out,if_neg (by simp),if_neg (by rw[bQ HY.out,TU.out];simp),if_neg Fh.out,hnm,if_neg (by omega)]
       unfold dG vv;rw[this,←HQ.out,e1]<;>exact rfl
      have uj:=Lib.hid (fun w1 (hb:Below w.heap.size w w1)=>zK a n c ls w1 (HH.out.below hb (Nat.le_refl _)) HT.out (HS.out.below hb (Nat.le_refl _)) hc kV e1)
      have HX:=Lib.hid hx
      have BM:=Lib.hid hxk
      have hdi:id≠d:=fun e=>by subst e;rw[HY.out]at hx;cases hx;rw[HNY.out]at hn;cases hn
      have YK:=Lib.hid hdi
      have jT:=Lib.hid (fun w2 (hb:Below w.heap.size w w2)=>kC (HH.out.below hb (Nat.le_refl _)) hx hxk)
      clear hp e1 hx hxk hn hmem hdi hfull hn0
      go_enter Tryz.func15,Tryz.ntmps15
      go_wp2_with fail
      (with_reducible refine HF.out.mono ?_)
      rintro e w1 ⟨rfl,hb1⟩
      have HB1:=Lib.hid hb1
      clear hb1
      go_wp2_with fail
      (with_reducible refine(mZ.out w1 HB1.out).mono ?_)
      rintro e w2 ⟨rfl,rfl⟩
      obtain⟨c0,hmap,c1⟩:=HIT.out w1 HB1.out
      have gG:=Lib.hid hmap
      clear hmap
      obtain⟨y7,hyn⟩:=Nk.out w1 HB1.out
      have T9:=Lib.hid hyn
      clear hyn
      go_wp2_with (first|(at_lookup;refine aW bC rfl _ _ 101 99 rfl Tryz.underlying101 (Tryz.bA _) rfl gG.out id rfl hok ?_;rw[HG.out])|(at_len;refine iJ dN rfl _ 112 3 rfl Tryz.underlying112 rfl T9.out ?_;rw[JM.out,HN0.out]))
      (with_reducible refine(uj.out w1 HB1.out).mono ?_)
      rintro e w2 ⟨rfl,hb2⟩
      have HB2:=Lib.hid (HB1.out.trans (hb2.mono HB1.out.size))
      clear hb2
      obtain⟨d7,fI⟩:=jT.out w2 HB2.out
      have mK:=Lib.hid fI
      have HA2:=Lib.hid (HH.out.below HB2.out (Nat.le_refl _))
      clear fI
      have D_:Hid (∀w3,MapAt dN w3 (nb d) (bR nm (cO x))→w2.mapTurned w3 (nb d)→(aO g D w3 p mb ib nb (aF T d nm)∧Keeps (fun b=>g b≠ .none) w2 w3)∧w3.cell? ⟨p,0,none⟩=some (.map (some mb))∧MapAt bC w3 mb (T.map fun q=>(q.1,ptr (ib q.1)))):=fun w3 hM Qs=>by
       have h3:=D9 HA2.out HX.out BM.out hM Qs
       have hm:=h3.1.map
       unfold aF at hm
       rw[wU _ _ _ (fun j=>ptr (ib j))]at hm
       exact⟨h3,h3.1.cell.1,hm⟩
      go_wp2_with (first|(at_delete;refine jS dN rfl _ _ 112 3 rfl Tryz.underlying112 rfl mK.out nm rfl kN ?_;intro w3 WO SI;obtain⟨hA3,hp3,Wh⟩:=D_.out w3 WO SI;have Qx:=Lib.hid hA3;have Ii:=Lib.hid Wh;clear hA3 WO SI Wh)|(at_delete;refine jS bC rfl _ _ 101 99 rfl Tryz.underlying101 rfl Ii.out id rfl hok ?_;intro w4 Bu rY;have za:=Lib.hid Bu;have u6:=Lib.hid rY;clear Bu rY))
      go_ret
      rw[HM.out]
      have hA3:=Qx.out
      have hsz:=jd u6.out
      have EC:aO g D w4 p mb ib nb (bR id (aF T d nm)):=by
       refine hA3.1.del ?_ (by omega) (fun b hb TM=>eG u6.out b hb TM)
       unfold aF
       rw[wU _ _ _ (fun j=>ptr (ib j))]
       exact za.out
      have hgm:=HH.out.jN
      exact Turn.of rfl EC (((kD HB2.out).trans hA3.2 (fun _ _ h=>h)).trans ((gW u6.out).mono fun b _ hb=>by rw[show b=mb from hb,hgm];simp) (fun _ _ h=>h))
   ·have hkk:(y.kind==2)=false:=by simpa using hk
    have HM:Hid (dG T ls=(23,T)):=by
     have:iQ T ls=23:=by
      unfold iQ
      rw[Cw.out,←HQ.out,if_neg (by simp),if_pos (by rw[bQ HY.out];exact hk)]
     unfold dG;rw[this]<;>exact rfl
    go_enter Tryz.func15,Tryz.ntmps15
    go_wp2_with fail
    (with_reducible refine HF.out.mono ?_)
    rintro e w1 ⟨rfl,hb1⟩
    have HB1:=Lib.hid hb1
    clear hb1
    go_wp2_with fail
    (with_reducible refine(mZ.out w1 HB1.out).mono ?_)
    rintro e w2 ⟨rfl,rfl⟩
    obtain⟨c0,hmap,c1⟩:=HIT.out w1 HB1.out
    have gG:=Lib.hid hmap
    clear hmap
    go_wp2_with (first|(at_lookup;refine aW bC rfl _ _ 101 99 rfl Tryz.underlying101 (Tryz.bA _) rfl gG.out id rfl hok ?_;rw[HG.out]))
    go_ret
    rw[HM.out]
    exact Turn.same HH.out HB1.out rfl
  ·have hne:(e0==0)=false:=by simpa using he
   have hne2:(e0 !=0)=true:=by simpa using he
   have HM:Hid (dG T ls=(e0,T)):=by
    have:iQ T ls=e0:=by
     unfold iQ
     rw[Cw.out,if_pos he]
    unfold dG;rw[this,if_neg he];exact rfl
   clear he
   go_enter Tryz.func15,Tryz.ntmps15
   go_wp2_with fail
   (with_reducible refine HF.out.mono ?_)
   rintro e w1 ⟨rfl,hb1⟩
   have HB1:=Lib.hid hb1
   clear hb1
   go_wp2_with fail
   (with_reducible refine(mZ.out w1 HB1.out).mono ?_)
   rintro e w2 ⟨rfl,rfl⟩
   go_wp2_with fail
   go_ret
   rw[HM.out]
   exact Turn.same HH.out HB1.out rfl
 ·have HM:Hid (dG T ls=(bS ls,T)):=by
   have:iQ T ls=bS ls:=by unfold iQ fE;rw[if_pos hf,if_pos hf]
   unfold dG;rw[this,if_neg hf];exact rfl
  have hne:(bS ls==0)=false:=by simpa using hf
  have hne2:(bS ls !=0)=true:=by simpa using hf
  clear hf
  go_enter Tryz.func15,Tryz.ntmps15
  go_wp2_with fail
  (with_reducible refine HF.out.mono ?_)
  rintro e w1 ⟨rfl,hb1⟩
  go_wp2_with fail
  go_ret
  rw[HM.out]
  exact Turn.same HH.out hb1 rfl
end
end Go.Proofs.YtmabllemjkcobaaGreat
