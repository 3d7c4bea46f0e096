/- Names that go: what holds of a tree behind Unlink, Rmdir; where a path's name stands. tree: Look, Unlink, Rmdir. -/
import Derived.Test.YtohpcppeajijnaaGreatM13
namespace Go.Proofs.YtohpcppeajijnaaGreat
open Go.ChangeShapes Go.WideShapes Go.ChangeAt Go.RowKit
set_option linter.unusedVariables false
set_option linter.unusedSimpArgs false
theorem gM (T:aF):∀(p q:List Nm) (a:Int),aC T a (p++q)=if (aC T a p).2=0 then aC T (aC T a p).1 q else aC T a p
 |[],q,a=>by simp[aC]
 |n::r,q,a=>by
  rcases Option.eq_none_or_eq_some (aj a T)with hx|⟨x,hx⟩
  ·simp[aC,hx]
  ·by_cases hk:x.kind=2
   ·rcases Option.eq_none_or_eq_some (aj n x.names)with hn|⟨k,hn⟩
    ·simp[aC,hx,hk,hn]
    ·simp only[List.cons_append,aC,hx,if_pos hk,hn]
     exact gM T r q k
   ·simp[aC,hx,hk]
theorem bS {T:aF} {p:List Nm} {id:Int} (h:aC T 0 p=(id,0)) (hp:p≠[]):∃d x n,aB T p=(d,n,0)∧aC T 0 p.dropLast=(d,0)∧aj d T=some x∧x.kind=2∧aj n x.names=some id∧n∈p∧p=p.dropLast++[n]:=by
 obtain⟨q,n,rfl⟩:∃q n,p=q++[n]:=⟨p.dropLast,p.getLast hp,(List.dropLast_concat_getLast hp).symm⟩
 rw[gM]at h
 have hd:(q++[n]).dropLast=q:=by simp
 have hl:(q++[n]).getLastD []=n:=by simp[List.getLastD_eq_getLast?]
 by_cases he:(aC T 0 q).2=0
 ·rw[if_pos he]at h
  obtain⟨⟨d,e0⟩,hq⟩:∃r,r=aC T 0 q:=⟨_,rfl⟩
  rw[←hq]at h he
  simp only at he
  subst he
  simp only[aC]at h
  cases hx:aj d T with
  |none=>rw[hx]at h;cases h
  |some x=>
   rw[hx]at h
   simp only at h
   by_cases hk:x.kind=2
   ·rw[if_pos hk]at h
    cases hn:aj n x.names with
    |none=>rw[hn]at h;cases h
    |some k=>
     rw[hn]at h
     simp only[Prod.mk.injEq,and_true]at h
     subst h
     refine⟨d,x,n,?_,by rw[hd,←hq],hx,hk,hn,by simp,by rw[hd]⟩
     unfold aB
     rw[if_neg hp,hd,hl,←hq,if_neg (by simp),if_pos ((bI hx).trans hk)]
   ·rw[if_neg hk]at h;cases h
 ·rw[if_neg he]at h
  rw[h]at he
  exact absurd rfl he
theorem Ia {α:Type} {κ:Type} [DecidableEq κ] {lt:κ→κ→Bool} (L:lW lt) (P:κ×α→Bool) {l:List (κ×α)} (hs:aI lt l) {k:κ} {v:α} (hg:aj k l=some v):(bg k l).countP P+(if P (k,v)then 1 else 0)=l.countP P:=by
 induction l with
 |nil=>cases hg
 |cons y r ih=>
  have hp:=hs.apart L
  obtain⟨h1,h2⟩:=List.pairwise_cons.1 hp
  rw[eX]at hg
  have PL:bg k (y::r)=if y.1=k then bg k r else y::bg k r:=by
   unfold bg
   rw[List.filter_cons]
   by_cases hy:y.1=k<;>simp[hy]
  rw[PL]
  by_cases hy:y.1=k
  ·rw[if_pos hy]at hg
   rw[if_pos hy]
   cases hg
   have hr:bg k r=r:=by
    unfold bg
    rw[List.filter_eq_self]
    intro q hq
    have:=h1 q hq
    simp only[Bool.not_eq_true',decide_eq_false_iff_not]
    exact fun e=>this (hy.trans e.symm)
   have e:(k,y.2)=y:=by rw[←hy]
   rw[hr,List.countP_cons,e]
  ·rw[if_neg hy]at hg
   rw[if_neg hy,List.countP_cons,List.countP_cons]
   have:=ih (List.pairwise_cons.1 hs).2 hg
   omega
theorem Nc {x:bF} (h:Fa x) {n:Nm} {id:Int} (hn:aj n x.names=some id) (k:Int):cn k {x with names:=bg n x.names}+(if id=k then 1 else 0)=cn k x:=by
 have:=Ia oU (fun e:Nm×Int=>decide (e.2=k)) h.sorted hn
 unfold cn
 simp only[decide_eq_true_eq]at this
 exact this
theorem Kl {x:bF} (h:Fa x) (n:Nm) (hk:x.kind=2):Fa {x with names:=bg n x.names}:=by
 refine⟨h.kind,fun h1=> ?_,h.dir,h.gone,h.sorted.bg _,fun e he=>h.good e (List.mem_filter.1 he).1,h.size,h.links,h.aK⟩
 have:x.kind=1:=h1
 omega
theorem vw.cut {T:aF} (h:vw T) {d:Int} {x:bF} {n:Nm} (hx:aj d T=some x) (hk:x.kind=2):vw (aA T d n):=
 h.aX hx (Kl (h.each d x hx) n hk) rfl (fun e he=>h.leads d x hx e (List.mem_filter.1 he).1)
theorem vw.del {T:aF} (h:vw T) {k:Int} {x:bF} (hx:aj k T=some x) (h0:k≠0) (hc:fq T k=0):vw (bg k T):=by
 have hget:∀j y,aj j (bg k T)=some y→j≠k∧aj j T=some y:=fun j y hy=>by
  rw[eH]at hy
  by_cases hj:j=k
  ·rw[if_pos hj]at hy;cases hy
  ·rw[if_neg hj]at hy;exact⟨hj,hy⟩
 refine⟨h.sorted.bg _,?_,fun j y hy=>h.each j y (hget j y hy).2,fun j y hy e he=> ?_,?_,fun j y hy=>h.ids j y (hget j y hy).2⟩
 ·have hr:=h.root
  unfold bq at hr⊢
  rw[eH,if_neg (Ne.symm h0)]
  exact hr
 ·have h1:=h.leads j y (hget j y hy).2 e he
  have h2:=vF hc (hget j y hy).2 e he
  rw[eH,if_neg h2]
  exact h1
 ·have:=pG dB h.sorted hx
  have:=h.len
  omega
theorem nD {T:aF} (h:vw T) {d id:Int} {x:bF} {n:Nm} (hx:aj d T=some x) (hn:aj n x.names=some id) (j:Int):fq (aA T d n) j+(if id=j then 1 else 0)=fq T j:=by
 have h1:=jX h.sorted (fun x=>{x with names:=bg n x.names}) hx j
 have h2:=Nc (h.each d x hx) hn j
 unfold aA
 omega
theorem zZ {T:aF} {d j:Int} {n:Nm} {y:bF} (hy:aj j (aA T d n)=some y):∃z,aj j T=some z∧y.links=z.links∧y.kind=z.kind∧y.closed=z.closed∧y.b=z.b∧(j≠d→y=z):=by
 unfold aA at hy
 rw[aQ]at hy
 by_cases hj:j=d
 ·rw[if_pos hj]at hy
  cases hz:aj j T with
  |none=>rw[hz]at hy;cases hy
  |some z=>
   rw[hz]at hy
   simp only[Option.map_some,Option.some.injEq]at hy
   subst hy
   exact⟨z,rfl,rfl,rfl,rfl,rfl,fun h=>absurd hj h⟩
 ·rw[if_neg hj]at hy
  exact⟨y,hy,rfl,rfl,rfl,rfl,fun _=>rfl⟩
theorem dG.Ev {T:aF} (h:dG T) {d id:Int} {x y:bF} {n:Nm} (hx:aj d T=some x) (hk:x.kind=2) (hn:aj n x.names=some id) (hy:aj id T=some y) (hid:id≠d) (h0:id≠0) (hyn:y.names=[]) (hl:y.links=1):dG (bg id (aA T d n)):=by
 have hP:=h.tovw.cut (n:=n) hx hk
 have hy1:aj id (aA T d n)=some y:=by unfold aA;rw[aQ,if_neg hid];exact hy
 have hc:=h.counts id y hy h0
 have h1:=nD h.tovw hx hn id
 rw[if_pos rfl]at h1
 refine⟨hP.del hy1 h0 (by omega),fun j z hz hj=> ?_⟩
 have hji:j≠id:=fun e=>by subst e;rw[lV]at hz;cases hz
 rw[eH,if_neg hji]at hz
 obtain⟨z',hz',hl',_⟩:=zZ hz
 have h2:=nD h.tovw hx hn j
 rw[if_neg (Ne.symm hji)]at h2
 have h3:=tQ hP.sorted hy1 j
 have h4:cn j y=0:=by unfold cn;rw[hyn];rfl
 have:=h.counts j z' hz' hj
 omega
theorem dG.Ib {T:aF} (h:dG T) {d id:Int} {x y:bF} {n:Nm} (hx:aj d T=some x) (hk:x.kind=2) (hn:aj n x.names=some id) (hy:aj id T=some y) (hyk:y.kind≠2):
  dG (eP (Go.Proofs.YtohpcppeajijnaaGreat.aX id (fun x=>{x with links:=x.links-1}) (aA T d n)) id):=by
 have hoy:=h.each id y hy
 have h0:=h.qx hy hyk
 have hid:id≠d:=fun e=>by subst e;rw[hx]at hy;cases hy;exact hyk hk
 have hk1:=hoy.kind.resolve_right hyk
 have hyn:=hoy.file hk1
 have hP:=h.tovw.cut (n:=n) hx hk
 have hy1:aj id (aA T d n)=some y:=by unfold aA;rw[aQ,if_neg hid];exact hy
 have hg:aj id (Go.Proofs.YtohpcppeajijnaaGreat.aX id (fun x=>{x with links:=x.links-1}) (aA T d n))=some {y with links:=y.links-1}:=by rw[aQ,if_pos rfl,hy1];rfl
 have hcy:=h.counts id y hy h0
 have h1:=nD h.tovw hx hn id
 rw[if_pos rfl]at h1
 unfold eP
 rw[hg]
 simp only
 by_cases hc:y.links-1=0∧y.closed=true
 ·rw[if_pos hc]
  have e:bg id (Go.Proofs.YtohpcppeajijnaaGreat.aX id (fun x=>{x with links:=x.links-1}) (aA T d n))=bg id (aA T d n):=by
   generalize aA T d n=L
   unfold bg Go.Proofs.YtohpcppeajijnaaGreat.aX
   induction L with
   |nil=>rfl
   |cons y r ih=>
    rw[List.map_cons,List.filter_cons,List.filter_cons,ih]
    by_cases hy:y.1=id<;>simp[hy]
  rw[e]
  exact h.Ev hx hk hn hy hid h0 hyn (by omega)
 ·rw[if_neg hc]
  refine⟨hP.aX (f:=fun x=>{x with links:=x.links-1}) hy1 ⟨hoy.kind,hoy.file,fun h=>absurd h hyk,fun h=> ?_,hoy.sorted,hoy.good,hoy.size,?_,hoy.aK⟩ rfl (hP.leads id y hy1),fun j z hz hj=> ?_⟩
  ·cases hcl:y.closed with
   |true=>exact absurd ⟨h,hcl⟩ hc
   |false=>rfl
  ·have:=hoy.links
   simp only
   omega
  ·have h3:=jX hP.sorted (fun x=>{x with links:=x.links-1}) hy1 j
   have h3':cn j {y with links:=y.links-1}=cn j y:=rfl
   have h4:=nD h.tovw hx hn j
   rw[aQ]at hz
   by_cases hji:j=id
   ·subst hji
    rw[if_pos rfl,hy1]at hz
    simp only[Option.map_some,Option.some.injEq]at hz
    rw[if_pos rfl]at h4
    rw[←hz]
    simp only
    omega
   ·rw[if_neg hji]at hz
    rw[if_neg (Ne.symm hji)]at h4
    obtain⟨z',hz',hl',_⟩:=zZ hz
    have:=h.counts j z' hz' hj
    omega
theorem z_ {T:aF} {p:List Nm} (h:gJ T p=0):bM p=0∧(aC T 0 p).2=0∧bq T (aC T 0 p).1≠2:=by
 unfold gJ eO at h
 by_cases h1:bM p≠0
 ·rw[if_pos h1]at h
  simp only[if_pos h1]at h
  exact absurd h h1
 ·rw[if_neg h1]at h
  by_cases h2:(aC T 0 p).2≠0
  ·rw[if_pos h2]at h;exact absurd h h2
  ·rw[if_neg h2]at h
   by_cases h3:bq T (aC T 0 p).1=2
   ·rw[if_pos h3]at h;cases h
   ·exact⟨by omega,by omega,h3⟩
theorem dG.bB {T:aF} (h:dG T) (p:List Nm):dG (bB T p).2:=by
 unfold Go.Proofs.YtohpcppeajijnaaGreat.bB
 by_cases he:gJ T p=0
 ·simp only[if_pos he]
  obtain⟨h1,h2,h3⟩:=z_ he
  obtain⟨y,hy⟩:=Option.isSome_iff_exists.1 (fA h p 0 (dU h) h2)
  have hp:p≠[]:=fun e=>by subst e;exact h3 h.root
  obtain⟨d,x,n,e1,_,hx,hk,hn,_⟩:=bS (id:=(aC T 0 p).1) (Prod.ext rfl h2) hp
  rw[bI hy]at h3
  unfold nu
  rw[e1]
  exact h.Ib hx hk hn hy h3
 ·simp only[if_neg he];exact h
theorem Bf {T:aF} {p:List Nm} (h:gV T p=0):bM p=0∧(aC T 0 p).2=0∧bq T (aC T 0 p).1=2∧(aC T 0 p).1≠0∧aO T (aC T 0 p).1=[]:=by
 unfold gV eO at h
 by_cases h1:bM p≠0
 ·rw[if_pos h1]at h
  simp only[if_pos h1]at h
  exact absurd h h1
 ·rw[if_neg h1]at h
  by_cases h2:(aC T 0 p).2≠0
  ·rw[if_pos h2]at h;exact absurd h h2
  ·rw[if_neg h2]at h
   by_cases h3:bq T (aC T 0 p).1≠2
   ·rw[if_pos h3]at h;cases h
   ·rw[if_neg h3]at h
    by_cases h4:(aC T 0 p).1=0
    ·rw[if_pos h4]at h;cases h
    ·rw[if_neg h4]at h
     by_cases h5:0<(aO T (aC T 0 p).1).length
     ·rw[if_pos h5]at h;cases h
     ·exact⟨by omega,by omega,by omega,h4,List.eq_nil_of_length_eq_zero (by omega)⟩
theorem dG.bU {T:aF} (h:dG T) (p:List Nm):dG (bU T p).2:=by
 unfold Go.Proofs.YtohpcppeajijnaaGreat.bU
 by_cases he:gV T p=0
 ·simp only[if_pos he]
  obtain⟨h1,h2,h3,h4,h5⟩:=Bf he
  obtain⟨y,hy⟩:=Option.isSome_iff_exists.1 (fA h p 0 (dU h) h2)
  have hp:p≠[]:=fun e=>by subst e;exact h4 rfl
  obtain⟨d,x,n,e1,_,hx,hk,hn,_⟩:=bS (id:=(aC T 0 p).1) (Prod.ext rfl h2) hp
  have hyn:y.names=[]:=by unfold aO at h5;rw[hy]at h5;exact h5
  rw[bI hy]at h3
  unfold rR
  rw[e1]
  refine h.Ev hx hk hn hy (fun e=> ?_) h4 hyn ((h.each _ y hy).dir h3).1
  rw[e,hx]at hy
  cases hy
  rw[hyn]at hn
  cases hn
 ·simp only[if_neg he];exact h
section
variable {g:Nat→Own} {D:Nat→Prop} {p mb:Nat} {ib nb:Int→Nat} {T:aF}
set_option maxHeartbeats 2000000 in
theorem Ew {S:Nat→Prop} (a:Option Addr) (n c:Nat) (ls:List Nm) (w:World) (h:aJ g D w p mb ib nb T) (hT:dG T) (hS:aH S w a n (ls.map strOf)):
  Calls Tryz.prog 115 #[ptr p, .slice a n c] w fun e w'=>e= .returned (.tuple #[.int .i64 (eO T ls).1, .int .i64 (eO T ls).2])∧Below w.heap.size w w':=by
 have HF:=Lib.hid (rY (S:=S) a n c ls w hS)
 have kW:=Lib.hid (fun w1 (hb:Below w.heap.size w w1)=>nA a n c ls w1 (h.below hb (Nat.le_refl _)) hT (hS.below hb (Nat.le_refl _)))
 clear h hT hS
 by_cases hf:bM ls=0
 ·have HE:Hid (eO T ls=aC T 0 ls):=by unfold eO;rw[if_neg (by rw[hf];simp)];exact rfl
  rw[hf]at HF
  clear hf
  go_enter Tryz.func115,Tryz.ntmps115
  go_wp2_with fail
  (with_reducible refine HF.out.mono ?_)
  rintro e w1 ⟨rfl,hb1⟩
  have HB1:=Lib.hid hb1
  clear hb1
  go_wp2_with fail
  (with_reducible refine(kW.out w1 HB1.out).mono ?_)
  rintro e w2 ⟨rfl,rfl⟩
  go_wp2_with fail
  go_ret2
  rw[HE.out]
  exact⟨rfl,HB1.out⟩
 ·have HE:Hid (eO T ls=(0,bM ls)):=by unfold eO;rw[if_pos hf];exact rfl
  have hne:(bM ls==0)=false:=by simpa using hf
  have hne2:(bM ls !=0)=true:=by simpa using hf
  clear hf
  go_enter Tryz.func115,Tryz.ntmps115
  go_wp2_with fail
  (with_reducible refine HF.out.mono ?_)
  rintro e w1 ⟨rfl,hb1⟩
  have HB1:=Lib.hid hb1
  clear hb1
  go_wp2_with fail
  go_ret2
  rw[HE.out]
  exact⟨rfl,HB1.out⟩
theorem wm {S:Nat→Prop} {d:Int} {nm:Nm} (a:Option Addr) (n c:Nat) (ls:List Nm) (w:World) (h:aJ g D w p mb ib nb T) (hT:dG T) (hS:aH S w a n (ls.map strOf)) (hc:n≤c) (jS:n≤1000000) (hp:aB T ls=(d,nm,0)):
  Calls Tryz.prog 60 #[ptr p, .slice a n c] w fun e w'=>e= .returned (.tuple #[ptr (ib d), .string (strOf nm), .int .i64 0])∧Below w.heap.size w w':=by
 have:=qm a n c ls w h hT hS hc jS
 unfold l8 at this
 rw[hp]at this
 exact this
theorem jD {w:World} {d:Int} {x:bF} (h:aJ g D w p mb ib nb T) (hx:aj d T=some x) (hk:x.kind=2):w.cell? ⟨ib d,7,none⟩=some (.map (some (nb d)))∧MapAt cK w (nb d) (bO x):=by
 have hi:=h.item d x hx
 obtain⟨_,_,_,_,_,_,c7,_⟩:=hi.cell
 unfold fJ at c7
 rw[if_pos hk]at c7
 exact⟨c7,hi.names hk⟩
theorem Ic {nm:Nm} (h:bZ nm=true):cK.ok nm:=by
 have:=nC nm h
 show nm.length≤maxLen
 unfold maxLen;omega
theorem Aa {w w':World} {d:Int} {x:bF} {n:Nm} (h:aJ g D w p mb ib nb T) (hx:aj d T=some x) (hk:x.kind=2) (hM:MapAt cK w' (nb d) (bg n (bO x))) (hT:w.mapTurned w' (nb d)):aJ g D w' p mb ib nb (aA T d n)∧Keeps (fun b=>g b≠ .none) w w':=
 ⟨h.cut hx hk hM hT,(fK hT).mono fun b _ hb=>by rw[show b=nb d from hb,h.kI d x hx hk];simp⟩
theorem jE {w w':World} {fp:Nat→Prop} (hb:Below w.heap.size w w'):Keeps fp w w':=(Keeps.below hb).mono fun b hb hb'=>absurd hb (by omega)
set_option maxRecDepth 100000 in
set_option maxHeartbeats 8000000 in
theorem yP {S:Nat→Prop} (a:Option Addr) (n c:Nat) (ls:List Nm) (w:World) (h:aJ g D w p mb ib nb T) (hT:dG T) (hS:aH S w a n (ls.map strOf)) (hc:n≤c) (jS:n≤1000000):
  Calls Tryz.prog 18 #[ptr p, .slice a n c] w (Turn g D w p mb (bB T ls).2 (.int .i64 (bB T ls).1)):=by
 have HH:=Lib.hid h
 have HT:=Lib.hid hT
 have HS:=Lib.hid hS
 have HF:=Lib.hid (rY (S:=S) a n c ls w hS)
 have kW:=Lib.hid (fun w1 (hb:Below w.heap.size w w1)=>nA a n c ls w1 (h.below hb (Nat.le_refl _)) hT (hS.below hb (Nat.le_refl _)))
 clear h hT hS
 by_cases hf:bM ls=0
 ·have vX:=Lib.hid hf
  rw[hf]at HF
  clear hf
  have zU:Hid (eO T ls=aC T 0 ls):=by unfold eO;rw[if_neg (by rw[vX.out];simp)];exact rfl
  obtain⟨⟨id,e0⟩,hq⟩:∃q,q=aC T 0 ls:=⟨_,rfl⟩
  have HQ:=Lib.hid hq
  rw[←hq]at kW zU
  clear hq
  by_cases he:e0=0
  ·subst he
   obtain⟨y,hy⟩:=Option.isSome_iff_exists.1 (og HQ.out.symm HT.out)
   have HY:=Lib.hid hy
   have l7:=HT.out.ids id y hy
   have hok:aW.ok id:=l6 l7.1 (by omega)
   have HG:Hid (aj id (T.map fun q=>(q.1,ptr (ib q.1)))=some (ptr (ib id))):=by rw[dw,hy];rfl
   have HIT:Hid (∀w1,Below w.heap.size w w1→w1.cell? ⟨p,0,none⟩=some (.map (some mb))∧MapAt aW w1 mb (T.map fun q=>(q.1,ptr (ib q.1)))∧w1.cell? ⟨ib id,1,none⟩=some (.int .i64 y.kind)):=fun w1 hb=>by
    have h2:=HH.out.below hb (Nat.le_refl _)
    obtain⟨_,c1,c2,_⟩:=(h2.item id y HY.out).cell
    exact⟨h2.cell.1,h2.map,c1⟩
   clear hy
   by_cases hk:y.kind=2
   ·have HM:Hid (bB T ls=(22,T)):=by
     have:gJ T ls=22:=by
      unfold gJ
      rw[zU.out,←HQ.out,if_neg (by simp),if_pos ((bI HY.out).trans hk)]
     unfold bB;rw[this]<;>exact rfl
    go_enter Tryz.func18,Tryz.ntmps18
    go_wp2_with fail
    (with_reducible refine HF.out.mono ?_)
    rintro e w1 ⟨rfl,hb1⟩
    have HB1:=Lib.hid hb1
    clear hb1
    go_wp2_with fail
    (with_reducible refine(kW.out w1 HB1.out).mono ?_)
    rintro e w2 ⟨rfl,rfl⟩
    obtain⟨c0,hmap,c1⟩:=HIT.out w1 HB1.out
    rw[hk]at c1
    have fM:=Lib.hid hmap
    clear hmap
    go_wp2_with (first|(at_lookup;refine aL aW rfl _ _ 94 92 rfl Tryz.underlying94 (Tryz.aU _) rfl fM.out id rfl hok ?_;rw[HG.out]))
    go_ret
    rw[HM.out]
    exact Turn.same HH.out HB1.out rfl
   ·have hkk:(y.kind==2)=false:=by simpa using hk
    have hp:ls≠[]:=fun e=>by
     have h1:id=0:=congrArg Prod.fst (HQ.out.trans (by rw[e]<;>exact(rfl:aC T 0 []=(0,0))))
     have:=HT.out.root
     rw[←h1,bI HY.out]at this
     exact hk this
    obtain⟨d,x,nm,e1,-,hx,hxk,hn,hmem,-⟩:=bS HQ.out.symm hp
    have AX:=Lib.hid (gW vX.out _ hmem)
    have jN:=Ic AX.out
    have HM:Hid (bB T ls=(0,eP (aX id (fun x=>{x with links:=x.links-1}) (aA T d nm)) id)):=by
     have:gJ T ls=0:=by
      unfold gJ
      rw[zU.out,←HQ.out,if_neg (by simp),if_neg (by rw[bI HY.out];exact hk)]
     unfold bB nu;rw[this,←HQ.out,e1];exact rfl
    have qK:=Lib.hid (fun w1 (hb:Below w.heap.size w w1)=>wm a n c ls w1 (HH.out.below hb (Nat.le_refl _)) HT.out (HS.out.below hb (Nat.le_refl _)) hc jS e1)
    have HX:=Lib.hid hx
    have x9:=Lib.hid hxk
    have hdi:id≠d:=fun e=>by subst e;rw[HY.out]at hx;cases hx;exact hk hxk
    have Rp:=Lib.hid hdi
    have jf:=Lib.hid (fun w2 (hb:Below w.heap.size w w2)=>jD (HH.out.below hb (Nat.le_refl _)) hx hxk)
    have R5:Hid ((Lit.int .i64 id).wf=true):=hok
    have hln:=(HT.out.each id y HY.out).links
    clear hk hp e1 hx hxk hn hmem hdi
    go_enter Tryz.func18,Tryz.ntmps18
    go_wp2_with fail
    (with_reducible refine HF.out.mono ?_)
    rintro e w1 ⟨rfl,hb1⟩
    have HB1:=Lib.hid hb1
    clear hb1
    go_wp2_with fail
    (with_reducible refine(kW.out w1 HB1.out).mono ?_)
    rintro e w2 ⟨rfl,rfl⟩
    obtain⟨c0,hmap,c1⟩:=HIT.out w1 HB1.out
    have fM:=Lib.hid hmap
    clear hmap
    go_wp2_with (first|(at_lookup;refine aL aW rfl _ _ 94 92 rfl Tryz.underlying94 (Tryz.aU _) rfl fM.out id rfl hok ?_;rw[HG.out]))
    (with_reducible refine(qK.out w1 HB1.out).mono ?_)
    rintro e w2 ⟨rfl,hb2⟩
    have HB2:=Lib.hid (HB1.out.trans (hb2.mono HB1.out.size))
    clear hb2
    obtain⟨d7,eD⟩:=jf.out w2 HB2.out
    have lM:=Lib.hid eD
    have HA2:=Lib.hid (HH.out.below HB2.out (Nat.le_refl _))
    clear eD
    have Ab:Hid (∀w3,MapAt cK w3 (nb d) (bg nm (bO x))→w2.mapTurned w3 (nb d)→(aJ g D w3 p mb ib nb (aA T d nm)∧Keeps (fun b=>g b≠ .none) w2 w3)∧aj id (aA T d nm)=some y∧w3.cell? ⟨ib id,2,none⟩=some (.int .i64 y.links)∧w3.frozen? ⟨ib id,2,none⟩=false):=fun w3 hM Kh=>by
     have h3:=Aa HA2.out HX.out x9.out hM Kh
     have hy3:aj id (aA T d nm)=some y:=by unfold aA;rw[aQ,if_neg Rp.out];exact HY.out
     exact⟨h3,hy3,(h3.1.item id y hy3).cell.2.2.1,(h3.1.item id y hy3).frozen 2⟩
    go_wp2_with (at_delete;refine je cK rfl _ _ 107 3 rfl Tryz.underlying107 rfl lM.out nm rfl jN ?_;intro w3 PN Mj;obtain⟨hA3,hy3,g2,GN⟩:=Ab.out w3 PN Mj;have Km:=Lib.hid hA3;have Rq:=Lib.hid hy3;clear hA3 PN Mj hy3)
    have hA3:=Km.out
    have hgi:=HH.out.l5 id y HY.out
    have Aw:aJ g D (w3.setCell ⟨ib id,2,none⟩ (.int .i64 (y.links-1))) p mb ib nb (aX id (fun x=>{x with links:=x.links-1}) (aA T d nm)):=
     hA3.1.fields Rq.out (fun x=>{x with links:=x.links-1}) rfl rfl rfl (Keeps.iC w3 ⟨ib id,2,none⟩ _) (by rw[size_set]) fun a c hc=>by rw[bY hc];rfl
    have hy4:aj id (aX id (fun x=>{x with links:=x.links-1}) (aA T d nm))=some {y with links:=y.links-1}:=by rw[aQ,if_pos rfl,Rq.out];rfl
    have Cy:Hid (Keeps (fun b=>g b≠ .none) w (w3.setCell ⟨ib id,2,none⟩ (.int .i64 (y.links-1)))):=
     ((jE HB2.out).trans hA3.2 (fun _ _ h=>h)).trans ((Keeps.iC w3 ⟨ib id,2,none⟩ _).mono fun b _ hb=>by rw[show b=ib id from hb,hgi];simp) (fun _ _ h=>h)
    have Na:=Lib.hid (vY id hy4 R5.out _ Aw)
    have WK:=Lib.hid HH.out.iU
    clear hA3 hgi Aw hy4
    (with_reducible refine Na.out.mono ?_)
    rintro e w5 ⟨rfl,Ay,rM,_⟩
    have Nb:=Lib.hid Ay
    have Fz:=Lib.hid rM
    clear Ay rM
    go_wp2_with fail
    go_ret
    rw[HM.out]
    exact Turn.of rfl Nb.out (Cy.out.trans (Fz.out.mono fun b _ hb=>by rw[show b=mb from hb,WK.out];simp) (fun _ _ h=>h))
  ·have hne:(e0==0)=false:=by simpa using he
   have hne2:(e0 !=0)=true:=by simpa using he
   have HM:Hid (bB T ls=(e0,T)):=by
    have:gJ T ls=e0:=by
     unfold gJ
     rw[zU.out,if_pos he]
    unfold bB;rw[this,if_neg he];exact rfl
   clear he
   go_enter Tryz.func18,Tryz.ntmps18
   go_wp2_with fail
   (with_reducible refine HF.out.mono ?_)
   rintro e w1 ⟨rfl,hb1⟩
   have HB1:=Lib.hid hb1
   clear hb1
   go_wp2_with fail
   (with_reducible refine(kW.out w1 HB1.out).mono ?_)
   rintro e w2 ⟨rfl,rfl⟩
   go_wp2_with fail
   go_ret
   rw[HM.out]
   exact Turn.same HH.out HB1.out rfl
 ·have HM:Hid (bB T ls=(bM ls,T)):=by
   have:gJ T ls=bM ls:=by unfold gJ eO;rw[if_pos hf,if_pos hf]
   unfold bB;rw[this,if_neg hf];exact rfl
  have hne:(bM ls==0)=false:=by simpa using hf
  have hne2:(bM ls !=0)=true:=by simpa using hf
  clear hf
  go_enter Tryz.func18,Tryz.ntmps18
  go_wp2_with fail
  (with_reducible refine HF.out.mono ?_)
  rintro e w1 ⟨rfl,hb1⟩
  go_wp2_with fail
  go_ret
  rw[HM.out]
  exact Turn.same HH.out hb1 rfl
set_option maxRecDepth 100000 in
set_option maxHeartbeats 8000000 in
theorem Bg {S:Nat→Prop} (a:Option Addr) (n c:Nat) (ls:List Nm) (w:World) (h:aJ g D w p mb ib nb T) (hT:dG T) (hS:aH S w a n (ls.map strOf)) (hc:n≤c) (jS:n≤1000000):
  Calls Tryz.prog 14 #[ptr p, .slice a n c] w (Turn g D w p mb (bU T ls).2 (.int .i64 (bU T ls).1)):=by
 have HH:=Lib.hid h
 have HT:=Lib.hid hT
 have HS:=Lib.hid hS
 have HF:=Lib.hid (rY (S:=S) a n c ls w hS)
 have kW:=Lib.hid (fun w1 (hb:Below w.heap.size w w1)=>nA a n c ls w1 (h.below hb (Nat.le_refl _)) hT (hS.below hb (Nat.le_refl _)))
 clear h hT hS
 by_cases hf:bM ls=0
 ·have vX:=Lib.hid hf
  rw[hf]at HF
  clear hf
  have zU:Hid (eO T ls=aC T 0 ls):=by unfold eO;rw[if_neg (by rw[vX.out];simp)];exact rfl
  obtain⟨⟨id,e0⟩,hq⟩:∃q,q=aC T 0 ls:=⟨_,rfl⟩
  have HQ:=Lib.hid hq
  rw[←hq]at kW zU
  clear hq
  by_cases he:e0=0
  ·subst he
   obtain⟨y,hy⟩:=Option.isSome_iff_exists.1 (og HQ.out.symm HT.out)
   have HY:=Lib.hid hy
   have l7:=HT.out.ids id y hy
   have hok:aW.ok id:=l6 l7.1 (by omega)
   have HG:Hid (aj id (T.map fun q=>(q.1,ptr (ib q.1)))=some (ptr (ib id))):=by rw[dw,hy];rfl
   have HIT:Hid (∀w1,Below w.heap.size w w1→w1.cell? ⟨p,0,none⟩=some (.map (some mb))∧MapAt aW w1 mb (T.map fun q=>(q.1,ptr (ib q.1)))∧w1.cell? ⟨ib id,1,none⟩=some (.int .i64 y.kind)):=fun w1 hb=>by
    have h2:=HH.out.below hb (Nat.le_refl _)
    obtain⟨_,c1,c2,_⟩:=(h2.item id y HY.out).cell
    exact⟨h2.cell.1,h2.map,c1⟩
   clear hy
   by_cases hk:y.kind=2
   ·rw[hk]at HIT
    have M_:=Lib.hid hk
    clear hk
    by_cases h0:id=0
    ·have HM:Hid (bU T ls=(1,T)):=by
      have:gV T ls=1:=by
       unfold gV
       rw[zU.out,←HQ.out,if_neg (by simp),if_neg (by rw[bI HY.out,M_.out];simp),if_pos h0]
      unfold bU;rw[this]<;>exact rfl
     have hd0:(id==0)=true:=by simpa using h0
     clear h0
     go_enter Tryz.func14,Tryz.ntmps14
     go_wp2_with fail
     (with_reducible refine HF.out.mono ?_)
     rintro e w1 ⟨rfl,hb1⟩
     have HB1:=Lib.hid hb1
     clear hb1
     go_wp2_with fail
     (with_reducible refine(kW.out w1 HB1.out).mono ?_)
     rintro e w2 ⟨rfl,rfl⟩
     obtain⟨c0,hmap,c1⟩:=HIT.out w1 HB1.out
     have fM:=Lib.hid hmap
     clear hmap
     go_wp2_with (first|(at_lookup;refine aL aW rfl _ _ 94 92 rfl Tryz.underlying94 (Tryz.aU _) rfl fM.out id rfl hok ?_;rw[HG.out]))
     go_ret
     rw[HM.out]
     exact Turn.same HH.out HB1.out rfl
    ·have hd0:(id==0)=false:=by simpa using h0
     have Bh:=Lib.hid h0
     have Ie:=Lib.hid (fun w2 (hb:Below w.heap.size w w2)=>jD (HH.out.below hb (Nat.le_refl _)) HY.out M_.out)
     have Rl:Hid ((bO y).length=y.names.length):=by unfold bO;rw[List.length_map]<;>exact rfl
     clear h0
     by_cases hfull:0<y.names.length
     ·have HM:Hid (bU T ls=(24,T)):=by
       have hnm:aO T id=y.names:=by unfold aO;rw[HY.out]
       have:gV T ls=24:=by
        unfold gV
        rw[zU.out,←HQ.out,if_neg (by simp),if_neg (by rw[bI HY.out,M_.out];simp),if_neg Bh.out,hnm,if_pos hfull]
       unfold bU;rw[this]<;>exact rfl
      have hd:decide ((0:Int)<(y.names.length:Int))=true:=by simp;omega
      have hd2:decide (0<y.names.length)=true:=by simpa using hfull
      go_enter Tryz.func14,Tryz.ntmps14
      go_wp2_with fail
      (with_reducible refine HF.out.mono ?_)
      rintro e w1 ⟨rfl,hb1⟩
      have HB1:=Lib.hid hb1
      clear hb1
      go_wp2_with fail
      (with_reducible refine(kW.out w1 HB1.out).mono ?_)
      rintro e w2 ⟨rfl,rfl⟩
      obtain⟨c0,hmap,c1⟩:=HIT.out w1 HB1.out
      have fM:=Lib.hid hmap
      clear hmap
      obtain⟨y7,hyn⟩:=Ie.out w1 HB1.out
      have R6:=Lib.hid hyn
      clear hyn
      go_wp2_with (first|(at_lookup;refine aL aW rfl _ _ 94 92 rfl Tryz.underlying94 (Tryz.aU _) rfl fM.out id rfl hok ?_;rw[HG.out])|(at_len;refine gI cK rfl _ 107 3 rfl Tryz.underlying107 rfl R6.out ?_;rw[Rl.out]))
      go_ret
      rw[HM.out]
      exact Turn.same HH.out HB1.out rfl
     ·have WL:Hid (y.names=[]):=by
       have:y.names=[]:=List.eq_nil_of_length_eq_zero (by omega)
       exact this
      have hn0:y.names.length=0:=by omega
      have WM:=Lib.hid hn0
      have hp:ls≠[]:=fun e=>by
       have h1:id=0:=congrArg Prod.fst (HQ.out.trans (by rw[e]<;>exact(rfl:aC T 0 []=(0,0))))
       exact Bh.out h1
      obtain⟨d,x,nm,e1,-,hx,hxk,hn,hmem,-⟩:=bS HQ.out.symm hp
      have AX:=Lib.hid (gW vX.out _ hmem)
      have jN:=Ic AX.out
      have HM:Hid (bU T ls=(0,bg id (aA T d nm))):=by
       have hnm:aO T id=y.names:=by unfold aO;rw[HY.out]
       have:gV T ls=0:=by
        unfold gV
        rw[zU.out,←HQ.out,if_neg (by simp),if_neg (by rw[bI HY.out,M_.out];simp),if_neg Bh.out,hnm,if_neg (by omega)]
       unfold bU rR;rw[this,←HQ.out,e1]<;>exact rfl
      have qK:=Lib.hid (fun w1 (hb:Below w.heap.size w w1)=>wm a n c ls w1 (HH.out.below hb (Nat.le_refl _)) HT.out (HS.out.below hb (Nat.le_refl _)) hc jS e1)
      have HX:=Lib.hid hx
      have x9:=Lib.hid hxk
      have hdi:id≠d:=fun e=>by subst e;rw[HY.out]at hx;cases hx;rw[WL.out]at hn;cases hn
      have Rp:=Lib.hid hdi
      have jf:=Lib.hid (fun w2 (hb:Below w.heap.size w w2)=>jD (HH.out.below hb (Nat.le_refl _)) hx hxk)
      clear hp e1 hx hxk hn hmem hdi hfull hn0
      go_enter Tryz.func14,Tryz.ntmps14
      go_wp2_with fail
      (with_reducible refine HF.out.mono ?_)
      rintro e w1 ⟨rfl,hb1⟩
      have HB1:=Lib.hid hb1
      clear hb1
      go_wp2_with fail
      (with_reducible refine(kW.out w1 HB1.out).mono ?_)
      rintro e w2 ⟨rfl,rfl⟩
      obtain⟨c0,hmap,c1⟩:=HIT.out w1 HB1.out
      have fM:=Lib.hid hmap
      clear hmap
      obtain⟨y7,hyn⟩:=Ie.out w1 HB1.out
      have R6:=Lib.hid hyn
      clear hyn
      go_wp2_with (first|(at_lookup;refine aL aW rfl _ _ 94 92 rfl Tryz.underlying94 (Tryz.aU _) rfl fM.out id rfl hok ?_;rw[HG.out])|(at_len;refine gI cK rfl _ 107 3 rfl Tryz.underlying107 rfl R6.out ?_;rw[Rl.out,WM.out]))
      (with_reducible refine(qK.out w1 HB1.out).mono ?_)
      rintro e w2 ⟨rfl,hb2⟩
      have HB2:=Lib.hid (HB1.out.trans (hb2.mono HB1.out.size))
      clear hb2
      obtain⟨d7,eD⟩:=jf.out w2 HB2.out
      have lM:=Lib.hid eD
      have HA2:=Lib.hid (HH.out.below HB2.out (Nat.le_refl _))
      clear eD
      have Ab:Hid (∀w3,MapAt cK w3 (nb d) (bg nm (bO x))→w2.mapTurned w3 (nb d)→(aJ g D w3 p mb ib nb (aA T d nm)∧Keeps (fun b=>g b≠ .none) w2 w3)∧w3.cell? ⟨p,0,none⟩=some (.map (some mb))∧MapAt aW w3 mb (T.map fun q=>(q.1,ptr (ib q.1)))):=fun w3 hM Kh=>by
       have h3:=Aa HA2.out HX.out x9.out hM Kh
       have hm:=h3.1.map
       unfold aA at hm
       rw[tK _ _ _ (fun j=>ptr (ib j))]at hm
       exact⟨h3,h3.1.cell.1,hm⟩
      go_wp2_with (first|(at_delete;refine je cK rfl _ _ 107 3 rfl Tryz.underlying107 rfl lM.out nm rfl jN ?_;intro w3 PN Mj;obtain⟨hA3,hp3,O8⟩:=Ab.out w3 PN Mj;have Km:=Lib.hid hA3;have C_:=Lib.hid O8;clear hA3 PN Mj O8)|(at_delete;refine je aW rfl _ _ 94 92 rfl Tryz.underlying94 rfl C_.out id rfl hok ?_;intro w4 xR pK;have vG:=Lib.hid xR;have rJ:=Lib.hid pK;clear xR pK))
      go_ret
      rw[HM.out]
      have hA3:=Km.out
      have hsz:=iq rJ.out
      have Aw:aJ g D w4 p mb ib nb (bg id (aA T d nm)):=by
       refine hA3.1.del ?_ (by omega) (fun b hb M0=>dD rJ.out b hb M0)
       unfold aA
       rw[tK _ _ _ (fun j=>ptr (ib j))]
       exact vG.out
      have hgm:=HH.out.iU
      exact Turn.of rfl Aw (((jE HB2.out).trans hA3.2 (fun _ _ h=>h)).trans ((fK rJ.out).mono fun b _ hb=>by rw[show b=mb from hb,hgm];simp) (fun _ _ h=>h))
   ·have hkk:(y.kind==2)=false:=by simpa using hk
    have HM:Hid (bU T ls=(23,T)):=by
     have:gV T ls=23:=by
      unfold gV
      rw[zU.out,←HQ.out,if_neg (by simp),if_pos (by rw[bI HY.out];exact hk)]
     unfold bU;rw[this]<;>exact rfl
    go_enter Tryz.func14,Tryz.ntmps14
    go_wp2_with fail
    (with_reducible refine HF.out.mono ?_)
    rintro e w1 ⟨rfl,hb1⟩
    have HB1:=Lib.hid hb1
    clear hb1
    go_wp2_with fail
    (with_reducible refine(kW.out w1 HB1.out).mono ?_)
    rintro e w2 ⟨rfl,rfl⟩
    obtain⟨c0,hmap,c1⟩:=HIT.out w1 HB1.out
    have fM:=Lib.hid hmap
    clear hmap
    go_wp2_with (first|(at_lookup;refine aL aW rfl _ _ 94 92 rfl Tryz.underlying94 (Tryz.aU _) rfl fM.out id rfl hok ?_;rw[HG.out]))
    go_ret
    rw[HM.out]
    exact Turn.same HH.out HB1.out rfl
  ·have hne:(e0==0)=false:=by simpa using he
   have hne2:(e0 !=0)=true:=by simpa using he
   have HM:Hid (bU T ls=(e0,T)):=by
    have:gV T ls=e0:=by
     unfold gV
     rw[zU.out,if_pos he]
    unfold bU;rw[this,if_neg he];exact rfl
   clear he
   go_enter Tryz.func14,Tryz.ntmps14
   go_wp2_with fail
   (with_reducible refine HF.out.mono ?_)
   rintro e w1 ⟨rfl,hb1⟩
   have HB1:=Lib.hid hb1
   clear hb1
   go_wp2_with fail
   (with_reducible refine(kW.out w1 HB1.out).mono ?_)
   rintro e w2 ⟨rfl,rfl⟩
   go_wp2_with fail
   go_ret
   rw[HM.out]
   exact Turn.same HH.out HB1.out rfl
 ·have HM:Hid (bU T ls=(bM ls,T)):=by
   have:gV T ls=bM ls:=by unfold gV eO;rw[if_pos hf,if_pos hf]
   unfold bU;rw[this,if_neg hf];exact rfl
  have hne:(bM ls==0)=false:=by simpa using hf
  have hne2:(bM ls !=0)=true:=by simpa using hf
  clear hf
  go_enter Tryz.func14,Tryz.ntmps14
  go_wp2_with fail
  (with_reducible refine HF.out.mono ?_)
  rintro e w1 ⟨rfl,hb1⟩
  go_wp2_with fail
  go_ret
  rw[HM.out]
  exact Turn.same HH.out hb1 rfl
end
end Go.Proofs.YtohpcppeajijnaaGreat
