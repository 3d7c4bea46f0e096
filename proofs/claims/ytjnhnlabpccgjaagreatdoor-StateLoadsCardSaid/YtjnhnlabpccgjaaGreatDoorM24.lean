/- The -/
import Derived.Test.YtjnhnlabpccgjaaGreatDoorM23
import Derived.Test.YtjnhnlabpccgjaaGreatDoorM15
import Derived.Test.YtjnhnlabpccgjaaGreatDoorM12
import Derived.BigRegion
import Derived.Deep.RegionHeld3
set_option maxRecDepth 100000
set_option maxHeartbeats 64000000
set_option linter.all false
namespace Go.Proofs.YtjnhnlabpccgjaaGreatDoor
open Go.ChangeShapes Go.WideShapes Go.ChangeAt Go.RowKit
theorem OI:∀a b:List UInt8,Op.bytesLess a b=bytesBefore a b
 |[],[]=>rfl
 |[],_::_=>rfl
 |_::_,[]=>rfl
 |x::r,y::s=>by
  unfold Op.bytesLess bytesBefore;rw[OI r s]
def mh(d:Int)(nm:Nm)(e:jT):Bool:=decide (e.1<d)||(decide (e.1=d)&&bytesBefore e.2.1 nm)
def rO(E:List jT)(d:Int)(nm:Nm)(id:Int):List jT:=E.takeWhile (mh d nm)++(d,nm,id)::E.dropWhile (mh d nm)
theorem xU{α:Type}{p:α→Bool}:∀{l:List α} {k:Nat},(l.take k).all p=true→(∀x,l[k]? =some x→p x=false)→k≤l.length→l.takeWhile p=l.take k∧l.dropWhile p=l.drop k
 |[],k,_,_,hk=>by simp
 |y::r,0,_,h,_=>by
  have:=h y (by simp);simp[this]
 |y::r,k+1,ha,h,hk=>by
  simp only[abn,List.all_cons,aaW]at ha;obtain⟨h1,h2⟩:=xU (l:=r) (k:=k) ha.2 (fun x hx=>h x (by simpa using hx)) (by simpa using hk);simp[ha.1,h1,h2]
section
variable{κ α:Type}{lt:κ→κ→Bool}
theorem H6(L:oF lt)(x:κ×α):∀(l:List (κ×α)),(∀p∈l,p.1≠x.1)→jg lt x l=l.takeWhile (fun y=>lt y.1 x.1)++x::l.dropWhile (fun y=>lt y.1 x.1)∨¬aI lt l
 |[],_=> .inl (by simp[jg])
 |y::r,hn=>by
  have hy:y.1≠x.1:=hn y (by simp);have no:∀a b,lt a b=true→lt b a=false:=fun a b h=>by
   cases h3:lt b a with
   |false=>rfl
   |true=>have:=L.trans _ _ _ h h3;rw[L.irr]at this;cases this
  by_cases hs:aI lt (y::r)
  ·left;rcases L.tot y.1 x.1 hy with h|h
   ·have h2:=no _ _ h;unfold jg;rcases H6 L x r (fun p hp=>hn p (by simp[hp]))with h3|h3
    ·rw[if_neg (by rw[h2];decide),acg,ach,if_pos h,if_pos h,h3];rfl
    ·exact absurd (aal.1 hs).2 h3
   ·have h2:=no _ _ h;unfold jg;rw[if_pos h,acg,ach,if_neg (by rw[h2];decide),if_neg (by rw[h2];decide)];rfl
  ·exact .inr hs
end
theorem QO{d id:Int}{nm:Nm}{A B:List jT}(h:∀e∈A,mh d nm e=true):rO (A++B) d nm id=A++rO B d nm id:=by
 unfold rO;rw[List.takeWhile_append_of_pos h,List.dropWhile_append_of_pos h,TK]
theorem ML{α:Type}{p:α→Bool}:∀{B:List α},(∀e∈B,p e=false)→B.takeWhile p=[]∧B.dropWhile p=B
 |[],_=>⟨rfl,rfl⟩
 |e::r,h=>by
  have:=h e (by simp);simp[this]
theorem Gc{d id:Int}{nm:Nm}{B:List jT}(h:∀e∈B,mh d nm e=false):∀A:List jT,rO (A++B) d nm id=rO A d nm id++B
 |[]=>by
  obtain⟨h1,h2⟩:=ML h;unfold rO;rw[List.nil_append,h1,h2];simp
 |e::r=>by
  have ih:=Gc (id:=id) h r;unfold rO at ih⊢;rw[ab7,acg,ach,acg,ach];cases he:mh d nm e with
  |true=>
   simp only[abC,ab7,ih]
  |false=>simp
theorem eY(y:Int×bJ)(r:aA):aW (y::r)=lQ y++aW r:=by unfold aW;rw[List.flatMap_cons]
theorem H7{T:aA}{e:jT}(h:e∈aW T):∃q∈T,q.1=e.1∧e.2∈q.2.names:=by
 unfold aW at h;obtain⟨q,hq,he⟩:=List.mem_flatMap.1 h;obtain⟨y,hy,rfl⟩:=List.mem_map.1 he;exact⟨q,hq,rfl,hy⟩
theorem pR(k:Int)(f:bJ→bJ)(y:Int×bJ)(r:aA):bC k f (y::r)=(if y.1=k then(y.1,f y.2)else y)::bC k f r:=rfl
theorem Gd{k:Int}{f:bJ→bJ}{r:aA}(h:∀q∈r,q.1≠k):bC k f r=r:=by
 unfold bC
 conv=>rhs;rw[←List.map_id r]
 apply aaz;intro q hq;rw[if_neg (h q hq)];rfl
theorem DL{d id:Int}{nm:Nm}:∀{T:aA} {x:bJ},aI iA T→aj d T=some x→aI bytesBefore x.names→aj nm x.names=none→rO (aW T) d nm id=aW (setName T d nm id)
 |[],x,_,hx,_,_=>by cases hx
 |y::r,x,hs,hx,hns,hn=>by
  obtain⟨h1,h2⟩:=aal.1 hs;rw[fF]at hx;unfold setName;rw[pR,eY,eY];by_cases hy:y.1=d
  ·rw[if_pos hy]at hx;cases hx;rw[if_pos hy,Gd (fun q hq=>by have:=h1 q hq;simp at this;omega)];rw[Gc (fun e he=>by
    obtain⟨q,hq,hk,_⟩:=H7 he;have:=h1 q hq;simp only[aah]at this;unfold mh;have a1:¬e.1<d:=by omega
    have a2:¬e.1=d:=by omega
    simp[a1,a2])]
   congr 1;unfold rO lQ;have hp:(mh d nm)∘(fun e:Nm×Int=>((y.1,e.1,e.2):jT))=fun e=>bytesBefore e.1 nm:=by
    funext e;simp[mh,hy]
   rw[List.takeWhile_map,List.dropWhile_map,hp];have hk:∀p∈y.2.names,p.1≠nm:=iP.1 hn;unfold b_;rw[kL hn];rcases H6 uO (nm,id) y.2.names hk with h3|h3
   ·rw[h3,List.map_append,List.map_cons,hy]
   ·exact absurd hns h3
  ·rw[if_neg hy]at hx;rw[if_neg hy];have hlt:=h1 _ (bM hx);simp only[aah]at hlt;rw[QO (fun e he=>by
    obtain⟨z,hz,rfl⟩:=List.mem_map.1 he;unfold mh;simp[hlt])]
   rw[DL h2 hx hns hn];rfl
theorem xV{α:Type}{p:α→Bool}:∀{l:List α} {k:Nat} {x:α},l[k]? =some x→p x=true→l.Pairwise (fun a b=>¬(p a=true∧p b=true))→l.take k++l.drop (k+1)=l.filter fun a=> !p a
 |[],k,x,h,_,_=>by simp at h
 |y::r,0,x,h,hp,hw=>by
  simp only[aai,Pd]at h;subst h;have h1:=(aal.1 hw).1;simp only[List.take_zero,List.nil_append,Nat.zero_add,List.drop_succ_cons,List.drop_zero,List.filter_cons,hp,Bool.not_true];rw[if_neg (by decide)]
  symm
  rw[aa0];intro a ha;cases hpa:p a with
  |false=>rfl
  |true=>exact absurd ⟨hp,hpa⟩ (h1 a ha)
 |y::r,k+1,x,h,hp,hw=>by
  obtain⟨h1,h2⟩:=aal.1 hw;have hx:r[k]? =some x:=by simpa using h
  have hy:p y=false:=by
   cases hpy:p y with
   |false=>rfl
   |true=>exact absurd ⟨hpy,hp⟩ (h1 x (aat hx))
  rw[abn,List.drop_succ_cons,ab7,xV hx hp h2,List.filter_cons,hy];rfl
theorem MN{T:aA}(hs:aI iA T)(hn:∀q∈T,aI bytesBefore q.2.names)(d:Int)(nm:Nm):(aW T).Pairwise fun a b=>¬(iR d nm a=true∧iR d nm b=true):=by
 unfold aW;rw[List.pairwise_flatMap];refine⟨fun q hq=> ?_,?_⟩
 ·unfold lQ;rw[abk];refine abJ (fun{a b} hab=> ?_) (hn q hq);simp only[iR,aah];rintro ⟨⟨_,h1⟩,_,h2⟩;rw[h1,h2,uO.irr]at hab;cases hab
 ·refine abJ (fun{a b} hab=> ?_) hs;intro x hx y hy;obtain⟨x',_,rfl⟩:=List.mem_map.1 hx;obtain⟨y',_,rfl⟩:=List.mem_map.1 hy;simp only[iR,aah];rintro ⟨⟨h1,_⟩,h2,_⟩;simp only[aah]at hab;omega
theorem DN(d:Int)(nm:Nm):∀T:aA,(aW T).filter (fun e=> !iR d nm e)=aW (aK T d nm)
 |[]=>rfl
 |y::r=>by
  have ih:=DN d nm r;unfold aK at ih⊢;rw[pR,eY,eY,aa7,ih];congr 1;unfold lQ;rw[abH];by_cases hy:y.1=d
  ·rw[if_pos hy];unfold bP;simp only;congr 1;apply List.filter_congr;intro e _;simp[iR,hy]
  ·rw[if_neg hy];congr 1;rw[aa0];intro e _;simp[iR,hy]
theorem Gf{x:Int×bJ}(hx:x.2.names=[]):∀T:aA,aW (jg iA x T)=aW T
 |[]=>by
  unfold jg;rw[eY];unfold lQ;rw[hx];rfl
 |y::r=>by
  unfold jg;split
  ·rw[eY];unfold lQ;rw[hx];rfl
  ·rw[eY,eY,Gf hx r]
theorem JW{T:aA}{f kind:Int}(hf:aj f T=none):aW (b_ iA f (cu kind) T)=aW T:=by
 unfold b_;rw[kL hf];exact Gf (x:=(f,cu kind)) rfl T
theorem JX{id:Int}:∀{T:aA},(∀q∈T,q.1=id→q.2.names=[])→aW (bP id T)=aW T
 |[],_=>rfl
 |y::r,h=>by
  have ih:=JX (T:=r) (id:=id) fun q hq=>h q (by simp[hq]);unfold bP at ih⊢;rw[List.filter_cons];by_cases hy:y.1=id
  ·have:=h y (by simp) hy;simp only[hy,decide_true,Bool.not_true];rw[if_neg (by decide),ih,eY];unfold lQ;rw[this];rfl
  ·simp only[hy,decide_false,Bool.not_false,abC];rw[eY,eY,ih]
theorem nO{id:Int}{f:bJ→bJ}(hf:∀x,(f x).names=x.names):∀T:aA,aW (bC id f T)=aW T
 |[]=>rfl
 |y::r=>by
  rw[pR,eY,eY,nO hf r];congr 1;by_cases hy:y.1=id
  ·rw[if_pos hy];unfold lQ;simp only;rw[hf]
  ·rw[if_neg hy]
theorem DR(id:Int):∀T:aA,aW (fO T id)=(aW T).filter fun e=> !decide (e.2.2=id)
 |[]=>rfl
 |y::r=>by
  have:fO (y::r) id=(y.1,gT id y.2)::fO r id:=rfl;rw[this,eY,eY,aa7,DR id r];congr 1;unfold lQ gT;simp only;rw[abH];rfl
theorem UD{T:aA}(hs:aI iA T)(id:Int):T.Pairwise fun a b=>¬(qR id a=true∧qR id b=true):=by
 refine abJ (fun{a b} hab=> ?_) hs;simp only[qR,aah];simp only[aah]at hab;omega
theorem del_at{T:aA}(hs:aI iA T){k:Nat}{q:Int×bJ}(hq:T[k]? =some q):T.take k++T.drop (k+1)=bP q.1 T:=by
 rw[xV (p:=qR q.1) hq (by simp[qR]) (UD hs q.1)];rfl
theorem pE{f:bJ→bJ}:∀{T:aA} {k:Nat} {q:Int×bJ},aI iA T→T[k]? =some q→T.set k (q.1,f q.2)=bC q.1 f T
 |[],k,q,_,h=>by simp at h
 |y::r,0,q,hs,h=>by
  simp only[aai,Pd]at h;subst h;obtain⟨h1,_⟩:=aal.1 hs;rw[pR,if_pos rfl,Gd (fun p hp=>by have:=h1 p hp;simp at this;omega)];rfl
 |y::r,k+1,q,hs,h=>by
  obtain⟨h1,h2⟩:=aal.1 hs;have hx:r[k]? =some q:=by simpa using h
  have:=h1 q (aat hx);simp only[aah]at this;rw[pR,if_neg (by omega),←pE h2 hx];rfl
theorem xW{id:Int}{f:bJ→bJ}(hf:∀x,dM (id,f x)=dM (id,x)):∀T:aA,(bC id f T).flatMap dM=T.flatMap dM
 |[]=>rfl
 |y::r=>by
  rw[pR,List.flatMap_cons,List.flatMap_cons,xW hf r];congr 1;by_cases hy:y.1=id
  ·rw[if_pos hy,hy,hf,←hy]
  ·rw[if_neg hy]
theorem pU{id:Int}{f:bJ→bJ}(hf:∀x,(f x).b=x.b)(T:aA):(bC id f T).map (fun q=>q.2.b)=T.map fun q=>q.2.b:=by
 unfold bC;rw[List.map_map];apply aaz;intro q _;by_cases h:q.1=id<;>simp[h,hf]
theorem JY(id:Int)(T:aA):(fO T id).flatMap dM=T.flatMap dM:=by
 unfold fO;rw[List.flatMap_map];rfl
theorem MO(id:Int)(T:aA):(fO T id).map (fun q=>q.2.b)=T.map fun q=>q.2.b:=by
 unfold fO;rw[List.map_map];rfl
theorem data_set{f:bJ→bJ}{T:aA}{k:Nat}{q:Int×bJ}(hs:aI iA T)(hq:T[k]? =some q):(bC q.1 f T).map (fun q=>q.2.b)=(T.map fun q=>q.2.b).set k (f q.2).b:=by
 rw[←pE hs hq,List.map_set]
theorem put_at{T:aA}(hs:aI iA T){f:Int}(x:bJ)(hf:aj f T=none):b_ iA f x T=T.takeWhile (fun q=>decide (q.1<f))++(f,x)::T.dropWhile fun q=>decide (q.1<f):=by
 unfold b_;rw[kL hf];rcases H6 bY (f,x) T (iP.1 hf)with h|h
 ·exact h
 ·exact absurd hs h
theorem iT{T:aA}(hT:dZ T):(aW T).length≤4096:=by
 have h1:=Lu (fun e:jT=>e.2.2) 64 (T.map (·.1)) (aW T) (fun e he=>by
  obtain⟨x,hx,hm⟩:=(lD hT.sorted).1 he;obtain⟨y,hy⟩:=aaf.1 (hT.leads _ x hx e.2 hm).1;exact List.mem_map.2 ⟨_,bM hy,rfl⟩) (fun j hj=>by
   have hcnt:(aW T).countP (fun e=>decide (e.2.2=j))=fV T j:=by
    unfold aW fV cn;rw[List.countP_flatMap];congr 1;apply aaz;intro q _;unfold lQ;simp only[Function.comp_apply,List.countP_map];rfl
   rw[hcnt];by_cases h0:j=0
   ·have:(aW T).countP (fun e=>decide (e.2.2=j))=0:=by
     rw[abU];intro e he;obtain⟨x,hx,hm⟩:=(lD hT.sorted).1 he;have:=(hT.leads _ x hx e.2 hm).2;simp[h0,this]
    omega
   ·obtain⟨q,hq,rfl⟩:=List.mem_map.1 hj;have hy:=aS bY hT.sorted hq;have h2:=hT.counts _ _ hy h0;have h3:=(hT.each _ _ hy).links;omega)
 have:=hT.len;rw[List.length_map]at h1;omega
theorem Br{S S':Nat→Prop}(a:Option Addr)(n c:Nat)(ls:List Nm)(a':Option Addr)(n' c':Nat)(ls':List Nm)(w:World)(hS:aT S w a n (ls.map strOf))(hS':aT S' w a' n' (ls'.map strOf)):
  Calls Tryz.prog 109 #[.slice a n c,.slice a' n' c'] w fun e w'=>e= .returned (.int .i64 (oV ls ls'))∧Below w.heap.size w w':=by
 have H1:=acr (tN a n c ls w hS);have H2:=acr (fun w1 (hb:Below w.heap.size w w1)=>tN a' n' c' ls' w1 (hS'.below hb acu));clear hS hS';unfold oV;by_cases h0:bH ls=0
 ·rw[h0]at H1;rw[if_neg (by rw[h0];simp)];clear h0;go_enter Tryz.func109,Tryz.ntmps109;go_wp2_with fail;refine H1.o.mono ?_;rintro e w1 ⟨rfl,hb1⟩;have HB1:=acr hb1;clear hb1;go_wp2_with fail;refine(H2.o w1 HB1.o).mono ?_;rintro e w2 ⟨rfl,hb2⟩;go_wp2_with fail;go_ret;exact⟨rfl,HB1.o.trans (hb2.mono HB1.o.size)⟩
 ·rw[if_pos h0];have hne:(bH ls==0)=false:=by simpa using h0
  have hne2:(bH ls !=0)=true:=by simpa using h0
  clear h0;go_enter Tryz.func109,Tryz.ntmps109;go_wp2_with fail;refine H1.o.mono ?_;rintro e w1 ⟨rfl,hb1⟩;go_wp2_with fail;go_ret;exact⟨rfl,hb1⟩
section
variable{F:Nat→Prop}{r:Nat}{T:aA}
theorem Aq{S:Nat→Prop}(a:Option Addr)(n c:Nat)(ls:List Nm)(w:World)(h:jC F w r T)(hT:dZ T)(hE:(aW T).length≤1000000)(hS:aT S w a n (ls.map strOf)):
  Calls Tryz.prog 103 #[ptr r,.slice a n c] w fun e w'=>e= .returned (.tuple #[.int .i64 (aY T ls).1,.int .i64 (aY T ls).2])∧Below w.heap.size w w':=by
 have H1:=acr (tN a n c ls w hS);have H2:=acr (fun w1 (hb:Below w.heap.size w w1)=>wG a n c ls w1 (h.below hb acu) hT hE (hS.below hb acu));clear hS h hT hE;unfold aY;by_cases h0:bH ls=0
 ·rw[h0]at H1;rw[if_neg (by rw[h0];simp)];clear h0;go_enter Tryz.func103,Tryz.ntmps103;go_wp2_with fail;refine H1.o.mono ?_;rintro e w1 ⟨rfl,hb1⟩;have HB1:=acr hb1;clear hb1;go_wp2_with fail;refine(H2.o w1 HB1.o).mono ?_;rintro e w2 ⟨rfl,hb2⟩;go_wp2_with fail
  go_ret2
  exact⟨rfl,HB1.o.trans (hb2.mono HB1.o.size)⟩
 ·rw[if_pos h0];have hne:(bH ls==0)=false:=by simpa using h0
  have hne2:(bH ls !=0)=true:=by simpa using h0
  clear h0;go_enter Tryz.func103,Tryz.ntmps103;go_wp2_with fail;refine H1.o.mono ?_;rintro e w1 ⟨rfl,hb1⟩;go_wp2_with fail
  go_ret2
  exact⟨rfl,hb1⟩
def JZ(T:aA)(id:Int):Int:=if dG T id=0 then rG (qR id) T else 0
theorem sF(id:Int)(w:World)(h:jC F w r T)(hT:wP T):Calls Tryz.prog 175 #[ptr r,.int .i64 id] w fun e w'=>e= .returned (.tuple #[.int .i64 (JZ T id),.int .i64 (dG T id)])∧w=w':=by
 have HR:=acr (zn id w h hT.len);have hr0:=h.low r h.own;cases hx:aj id T with
 |none=>
  have e1:dG T id=20:=by unfold dG;rw[hx]
  have e2:JZ T id=0:=by unfold JZ;simp only[e1];rfl
  rw[DJ hx]at HR;rw[e1,e2];clear h hx hT e1 e2;go_enter Tryz.func175,Tryz.ntmps175;go_wp2_with fail;refine HR.o.mono ?_;rintro e w1 ⟨rfl,rfl⟩;go_wp2_with fail
  go_ret2
  exact⟨rfl,rfl⟩
 |some x=>
  obtain⟨k,hk,hq⟩:=lC hT.sorted hx;rw[hk]at HR;obtain⟨b,off,c,hc0,hF,hb,hkl,c0,c1,c2,c3,c4,c5⟩:=h.node hq;have i0:(0:Int)≤k:=by omega
  have i1:(k:Int)<T.length:=by omega
  have i2:¬(k:Int)<0:=by omega
  simp only at c0 c1 c2 c3 c4 c5;by_cases hk2:x.kind=2
  ·have e1:dG T id=22:=by unfold dG;rw[hx];exact if_pos hk2
   have e2:JZ T id=0:=by unfold JZ;simp only[e1];rfl
   rw[e1,e2];rw[hk2]at c1;clear hk2 e1 e2 h hx hk hq hT;go_enter Tryz.func175,Tryz.ntmps175;go_wp2_with fail;refine HR.o.mono ?_;rintro e w1 ⟨rfl,rfl⟩;go_wp2_with fail
   go_ret2
   exact⟨rfl,rfl⟩
  ·have e1:dG T id=0:=by unfold dG;rw[hx];exact if_neg hk2
   have e2:JZ T id=k:=by unfold JZ;simp only[e1];exact hk
   rw[e1,e2];have e3:(x.kind==2)=false:=by simpa using hk2
   clear hk2 e1 e2 h hx hk hq hT;go_enter Tryz.func175,Tryz.ntmps175;go_wp2_with fail;refine HR.o.mono ?_;rintro e w1 ⟨rfl,rfl⟩;go_wp2_with fail
   go_ret2
   exact⟨rfl,rfl⟩
theorem nP{S:Nat→Prop}(a:Option Addr)(n c:Nat)(ls:List Nm)(w:World)(h:jC F w r T)(hT:dZ T)(hE:(aW T).length≤1000000)(hS:aT S w a n (ls.map strOf))(hc:n≤c)(mQ:n≤1000000):
  Calls Tryz.prog 111 #[ptr r,.slice a n c] w fun e w'=>e= .returned (.tuple #[.int .i64 (aH T ls).1,.string (strOf (aH T ls).2.1),.int .i64 (aH T ls).2.2])∧Below w.heap.size w w':=by
 have hln:ls.length=n:=by have:=hS.length;simpa using this
 unfold aH;by_cases h0:ls=[]
 ·rw[if_pos h0];have hn:n=0:=by rw[←hln,h0];rfl
  subst hn;clear h hT hS hE;go_enter Tryz.func111,Tryz.ntmps111;go_wp2
  go_ret3
  exact⟨rfl,Below.refl _ _⟩
 ·rw[if_neg h0];obtain⟨j,rfl⟩:∃j,n=j+1:=⟨n-1,by
   have:n≠0:=fun e=>h0 (aad (by omega));omega⟩
  obtain⟨b,off,nm,rfl,_,hbw,hx,hsz,hcn⟩:=DK hS j (by omega);have hdl:(ls.map strOf).take j=ls.dropLast.map strOf:=by
   rw[List.dropLast_eq_take,hln,aa3];rfl
  have hnm:ls.getLastD []=nm:=by
   rw[abM,List.getLast?_eq_getElem?,hln,show j+1-1=j from rfl,hx];rfl
  have hT1:=hS.take j (by omega);rw[hdl]at hT1;have qP:=acr (wG _ j c ls.dropLast w h hT hE hT1);have HH:=acr (fun w1 (hb:Below w.heap.size w w1) id=>mg id w1 (h.below hb acu) hT.towP);have HTH:=acr (gq hT.w ls.dropLast 0 (fD hT.w));have e1:IntKind.i64.wrap (((j+1:Nat):Int)-1)=(j:Int):=by rw[show(((j+1:Nat):Int)-1)=(j:Int)by omega];exact aag _ (by omega)
  have e1':IntKind.i64.wrap ((j:Int)+1-1)=(j:Int):=by rw[show((j:Int)+1-1)=(j:Int)by omega];exact aag _ (by omega)
  have i0:(0:Int)≤j:=by omega
  have i1:(j:Int)<((j+1:Nat):Int):=by omega
  have i1':(j:Int)<(j:Int)+1:=by omega
  have i2:(((j+1:Nat):Int)==0)=false:=by simp;omega
  have i2':((j:Int)+1==0)=false:=by simp;omega
  have hjc:j≤c:=by omega
  rw[hnm];clear h hT hE hS hx hsz hdl hnm hT1 hln h0;obtain⟨⟨d,e0⟩,hq⟩:∃q,q=aG T 0 ls.dropLast:=⟨_,rfl⟩;rw[←hq]at qP HTH;rw[←hq];clear hq;simp only at qP HTH;simp only;by_cases he:e0=0
  ·subst he;obtain⟨x,hx⟩:=aaf.1 (HTH.o rfl);have hnd:jN T d=kE d x:=by unfold jN;rw[hx]
   have hkd:=dh hx;have HHd:=acr (fun w1 hb=>HH.o w1 hb d);rw[hnd]at HHd;unfold kE at HHd;rw[if_neg (by simp),hkd];clear hnd hkd HH hx HTH;by_cases hk2:x.kind=2
   ·rw[if_pos hk2];rw[hk2]at HHd;clear hk2;go_enter Tryz.func111,Tryz.ntmps111;go_wp2_with fail;refine qP.o.mono ?_;rintro e w1 ⟨rfl,hb1⟩;have HB1:=acr hb1;clear hb1;go_wp2_with fail;refine(HHd.o w1 HB1.o).mono ?_;rintro e w2 ⟨rfl,hb2⟩;have HB2:=acr (HB1.o.trans (hb2.mono HB1.o.size));clear hb2;have hs2:=HB2.o.size;have hc2:w2.cell? ⟨b,off+j,none⟩=some (.string (strOf nm)):=by rw[HB2.o.cell (p:=⟨b,off+j,none⟩) hbw];exact hcn
    have hb2w:b<w2.heap.size:=by omega
    go_wp2_with fail
    go_quiet (fail)
    go_wp2_with fail
    go_ret3
    exact⟨rfl,HB2.o.trans ⟨rfl,rfl,rfl,by simp,fun x hx=>abr _ _ _ (by omega)⟩⟩
   ·have e3:(x.kind==2)=false:=by simpa using hk2
    have e4:(x.kind !=2)=true:=by simpa using hk2
    rw[if_neg hk2];clear hk2;go_enter Tryz.func111,Tryz.ntmps111;go_wp2_with fail;refine qP.o.mono ?_;rintro e w1 ⟨rfl,hb1⟩;have HB1:=acr hb1;clear hb1;go_wp2_with fail;refine(HHd.o w1 HB1.o).mono ?_;rintro e w2 ⟨rfl,hb2⟩;have HB2:=acr (HB1.o.trans (hb2.mono HB1.o.size));clear hb2;go_wp2_with fail
    go_ret3
    exact⟨rfl,HB2.o.trans ((wall w2 _).mono HB2.o.size)⟩
  ·rw[if_pos he];have hne:(e0==0)=false:=by simpa using he
   have hne2:(e0 !=0)=true:=by simpa using he
   clear he HH HTH;go_enter Tryz.func111,Tryz.ntmps111;go_wp2_with fail;refine qP.o.mono ?_;rintro e w1 ⟨rfl,hb1⟩;go_wp2_with fail
   go_ret3
   exact⟨rfl,hb1⟩
end
theorem fT{w:World}{base g:Nat}{e:TypeId}{k:Nat}(hg:w.heap[g]? =some (.cells #[] e))(hb:base≤g):w.ownsRow base e k (.slice (some ⟨g,0,none⟩) 0 0) 0 []:=by
 refine⟨by simp,.inr ⟨g,0,#[],rfl,hb,hg,Nat.le_refl _,Nat.zero_le _,by simp,by simp⟩⟩
theorem ah.nX{w:World}{base:Nat}{e:TypeId}{k:Nat}{a:Option Addr}{m n c:Nat}{xs:List Value}(h:w.ownsRow base e k (.slice a m c) n xs)(hs:n*k≤maxLen):m=n∧n≤c∧Base a c∧ah (fun x=>base≤x∧x<w.heap.size) w a (n*k) xs:=by
 obtain⟨h1,h2⟩:=h;rcases h2 with⟨h2,rfl⟩|⟨g,cap,cur,h2,hg,hcur,h3,h4,h5,h6⟩
 ·simp only[aak]at h2;obtain⟨rfl,rfl,rfl⟩:=h2;have:xs=[]:=aad (by omega);subst this;rw[abG];exact⟨rfl,Nat.le_refl _,Or.inl ⟨rfl,rfl⟩,ah.nil _ _ _⟩
 ·simp only[aak]at h2;obtain⟨rfl,rfl,rfl⟩:=h2;have hgw:=(iL.1 hcur).1;refine⟨rfl,h3,Or.inr ⟨_,rfl⟩,h1,hs,fun h0=>⟨g,0,rfl,⟨hg,hgw⟩,hgw,fun i hi=> ?_⟩⟩;simp only[World.cell?,hcur,Nat.zero_add];rw[←h6,aaD,if_pos hi];simp
theorem oP{P:Program}{S:Nat→Prop}{w:World}(base:Nat)(t ty e:TypeId)(i:TypeInfo)(z:Value)(k bytes:Nat)(ht:P.underlying t=some (.slice e))(hi:P.info? e=some i)(hz:i.zero=some z)
  (hsize:i.size=k)(hby:i.bytes=bytes)(hzs:z.cells.size=k)(hk:0<k)(v:Value)(n:Nat)(xs:List Value)(hown:w.ownsRow base e k v n xs)
  (A:Option Addr)(m c:Nat)(news:List Value)(hr:ah S w A (m*k) news)(h1:∀u∈news,u.oneCell'=true)(h63:n+m≤maxLen)(hbytes:(n+m)*bytes≤140737488355328)(hbase:base≤w.heap.size):
  ∃A' c' w',(Builtin.append_ #[t,t] ty #[v,.slice A m c]).run P w= .ok (.slice A' (n+m) c') w'∧w'.ownsRow base e k (.slice A' (n+m) c') (n+m) (xs++news)∧w.grownBy w' v.ownBlock∧
   ((Value.slice A' (n+m) c').ownBlock=v.ownBlock∨(Value.slice A' (n+m) c').ownBlock=some w.heap.size):=by
 rcases A with _|ad
 ·have hm:m=0:=by
   rcases abv m with h0|h0
   ·exact h0
   ·obtain⟨_,_,h,_⟩:=hr.at_ (Nat.mul_pos h0 hk);cases h
  subst hm;have hn:news=[]:=aad (by rw[hr.length];omega);subst hn;obtain⟨A',c',rfl,_⟩:=fM hown;refine⟨A',c',w,?_,by simpa using hown,⟨rfl,rfl,rfl,Nat.le_refl _,fun _ _ _=>rfl⟩,Or.inl rfl⟩;rcases hown.2 with⟨h2,rfl⟩|⟨g,cap,cur,h2,_,_,hnc,_⟩
  ·simp only[aak]at h2;obtain⟨rfl,_,rfl⟩:=h2;simp[Builtin.append_,abP ht,sizeOf,typeInfo,hi,Builtin.lenOf,Builtin.firstCells]
  ·simp only[aak]at h2;obtain⟨rfl,_,rfl⟩:=h2;simp[Builtin.append_,abP ht,sizeOf,typeInfo,hi,Builtin.lenOf,Builtin.firstCells,hnc,storeCells]
 ·obtain⟨v',w',hr',h2,h3,h4,h5⟩:=run_append_own_at (P:=P) w base t ty e i z k bytes ht hi hz hsize hby hzs hk v n xs hown ad m c news hr.length hr.cells h1 h63 hbytes hbase;obtain⟨A',c',rfl,_⟩:=fM h2;exact⟨A',c',w',hr',h2,h3,h5⟩
theorem au{P:Program}{S:Nat→Prop}{ops:Array Oper}{o:Oper}{a:Act}{w:World}{K:Act→World→Prop}{Q:Exit→Act→World→Prop}{E:Prop}(hgd:o.guard=none)(s x:Operand)(t:TypeId)
  (ho:o.op= .call {callee:= .builtin .append,args:= #[s,x],argTypes:= #[t,t]})
  (base:Nat)(e:TypeId)(i:TypeInfo)(z:Value)(k bytes:Nat)(ht:P.underlying t=some (.slice e))(hi:P.info? e=some i)(hz:i.zero=some z)
  (hsize:i.size=k)(hby:i.bytes=bytes)(hzs:z.cells.size=k)(hk:0<k)(v:Value)(n:Nat)(xs:List Value)(hs:a.eval s=v)(hown:w.ownsRow base e k v n xs)
  (A:Option Addr)(m c:Nat)(news:List Value)(hx:a.eval x= .slice A m c)(hr:ah S w A (m*k) news)(h1:∀u∈news,u.oneCell'=true)(h63:n+m≤maxLen)(hbytes:(n+m)*bytes≤140737488355328)(hbase:base≤w.heap.size)
  (h:∀A' c' w',w'.ownsRow base e k (.slice A' (n+m) c') (n+m) (xs++news)→Below base w w'→K (a.put o.dst (.slice A' (n+m) c')) w'):
  if Region.wanted o (yielded ops a.tmps)=true then Oper.wp P o a w K Q else E:=by
 have hw:Region.wanted o (yielded ops a.tmps)=true:=by simp[Region.wanted,hgd]
 rw[if_pos hw];obtain⟨A',c',w',hr,h2,h3,h4⟩:=oP (P:=P) base t o.type e i z k bytes ht hi hz hsize hby hzs hk v n xs hown A m c news hr h1 h63 hbytes hbase;unfold Oper.wp execOp;simp only[ho,resolve,invoke,builtin,abz,abF,abl,abt,List.map_cons,abg,hs,hx,hr];exact h A' c' w' h2 ⟨h3.os,h3.tape,h3.output,h3.size,fun b hb=>h3.block b (by omega) (fun e=>by have:=dA hown b e.symm;omega)⟩
theorem own_below{w w':World}{base:Nat}{e:TypeId}{k:Nat}{v:Value}{n:Nat}{xs:List Value}(h:w.ownsRow base e k v n xs)(hb:Below w.heap.size w w'):w'.ownsRow base e k v n xs:=by
 obtain⟨h1,h2⟩:=h;refine⟨h1,?_⟩;rcases h2 with h2|⟨g,cap,cur,h2,hg,hcur,h3⟩
 ·exact .inl h2
 ·exact .inr ⟨g,cap,cur,h2,hg,(hb.block g (iL.1 hcur).1).trans hcur,h3⟩
theorem qz{α β:Type}(f:α→List β)(k:Nat)(hk:∀x,(f x).length=k):∀(L:List α) (i:Nat),(L.flatMap f).take (i*k)=(L.take i).flatMap f
 |[],i=>by simp
 |y::r,0=>by simp
 |y::r,i+1=>by
  rw[List.flatMap_cons,abn,List.flatMap_cons,Nat.add_mul,Nat.one_mul,Nat.add_comm,←hk y,List.take_length_add_append,hk y,qz f k hk r i]
theorem qA{α β:Type}(f:α→List β)(k:Nat)(hk:∀x,(f x).length=k):∀(L:List α) (i:Nat),(L.flatMap f).drop (i*k)=(L.drop i).flatMap f
 |[],i=>by simp
 |y::r,0=>by simp
 |y::r,i+1=>by
  rw[List.flatMap_cons,List.drop_succ_cons,Nat.add_mul,Nat.one_mul,Nat.add_comm,←hk y,List.drop_length_add_append,hk y,qA f k hk r i]
theorem Ar{α β:Type}(f:α→List β)(k:Nat)(hk:∀x,(f x).length=k){j:Nat}{x x':α}{v:β}(hj:j<k)(hv:f x'=(f x).set j v):∀(L:List α) (i:Nat),L[i]? =some x→(L.flatMap f).set (i*k+j) v=(L.set i x').flatMap f
 |[],i,h=>by simp at h
 |y::r,0,h=>by
  simp only[aai,Pd]at h;subst h;rw[List.flatMap_cons,abG,Nat.zero_add,List.set_append_left _ _ (by rw[hk];exact hj),aaJ,List.flatMap_cons,hv]
 |y::r,i+1,h=>by
  rw[List.flatMap_cons,List.set_append_right _ _ (by rw[hk,Nat.add_mul];omega),hk,show(i+1)*k+j-k=i*k+j by rw[Nat.add_mul];omega,Ar f k hk hj hv r i (by simpa using h)];rfl
theorem m_(E:List jT):∀u∈E.flatMap fH,u.oneCell'=true:=by
 intro u hu;obtain⟨e,_,he⟩:=List.mem_flatMap.1 hu;simp only[fH,aan,abh,or_false]at he;rcases he with rfl|rfl|rfl<;>rfl
theorem g_(T:aA):∀u∈T.flatMap dM,u.oneCell'=true:=by
 intro u hu;obtain⟨e,_,he⟩:=List.mem_flatMap.1 hu;simp only[dM,aan,abh,or_false]at he;rcases he with rfl|rfl|rfl|rfl|rfl|rfl<;>rfl
theorem Cu:(Tryz.prog.info? 146).map (fun i=>(i.zero,i.size,i.bytes))=some (some (.agg #[.int .i64 0,.string ⟨#[]⟩,.int .i64 0]),3,32):=by kernel_rfl
theorem nodeInfo:(Tryz.prog.info? 39).map (fun i=>(i.zero,i.size,i.bytes))=some (some (.agg #[.int .i64 0,.int .i64 0,.int .i64 0,.int .i64 0,.int .u64 0,.bool false]),6,48):=by kernel_rfl
theorem zo:(Tryz.prog.info? 28).map (fun i=>(i.zero,i.size,i.bytes))=some (some (.slice none 0 0),1,24):=by kernel_rfl
theorem ah.gI{S:Nat→Prop}{w:World}{b off len:Nat}{vs:List Value}(h:ah S w (some ⟨b,off,none⟩) len vs){j:Nat}(hj:j<len)(v:Value):ah S (w.setCell ⟨b,off+j,none⟩ v) (some ⟨b,off,none⟩) len (vs.set j v):=by
 obtain⟨b',off',e,hS,hb,hc⟩:=h.at_ (by omega);simp only[Pd,aaQ,aaI]at e;obtain⟨rfl,rfl⟩:=e;have hl:=h.length;refine⟨by simpa using hl,h.small,fun _=>⟨b,off,rfl,hS,by rw[size_set];exact hb,fun i hi=> ?_⟩⟩;by_cases hij:i=j
 ·subst hij;have h1:=hc i hi;rw[List.getElem?_eq_getElem (by omega)]at h1;rw[World.cell?_setCell_same _ _ _ h1,aaY (by omega)]
 ·rw[World.cell?_setCell_other _ _ _ _ (fun e=>by
   simp only[aaQ,aaI,abR]at e;omega),hc i hi,List.getElem?_set_ne (aaT hij)]
theorem ah.apart{S:Nat→Prop}{w:World}{a:Option Addr}{len:Nat}{vs:List Value}(h:ah S w a len vs)(q:Addr)(v:Value)(hq:∀b,S b→b≠q.block):ah S (w.setCell q v) a len vs:=
 h.kept (by rw[size_set];exact Nat.le_refl _) fun b hb _=>bA _ _ _ _ (hq b hb)
theorem ah.frozen{w:World}{q:Addr}{cs:Array Value}{t:TypeId}(h:w.heap[q.block]? =some (.cells cs t (0,0)))(hq:q.spot=none):w.frozen? q=false:=by
 obtain⟨b,o,s⟩:=q;simp only at hq h;subst hq;simp[World.frozen?,h]
def New(w w':World):Nat→Prop:=fun x=>w.heap.size≤x∧x<w'.heap.size
def Grow(F:Nat→Prop)(w w':World):Nat→Prop:=fun x=>F x∨(w.heap.size≤x∧x<w'.heap.size)
def dS(F:Nat→Prop)(w:World)(r:Nat)(T:aA)(D:List (List UInt8))(E:List jT)(v:Value)(e:Ending)(w':World):Prop:=
 e= .returned v∧Keeps (fun x=>x=r) w w'∧gX (Grow F w w') w' r T D E
abbrev bS(F:Nat→Prop)(w:World)(r:Nat)(T:aA)(v:Value)(e:Ending)(w':World):Prop:=dS F w r T (T.map fun q=>q.2.b) (aW T) v e w'
section
variable{F:Nat→Prop}{r:Nat}{T T':aA}{D D':List (List UInt8)}{E E':List jT}{w w' w2:World}
theorem gX.mono{F':Nat→Prop}(h:gX F w r T D E)(hs:∀b,F b→F' b)(hl:∀b,F' b→b<w.heap.size):gX F' w r T D E:=by
 obtain⟨aN,cN,aD,cD,aE,cE,h1,h2,h3,h4,h8,h9,h10,h11⟩:=h.head;have hk:∀b,Off F r b→b<w.heap.size→Off F' r b∧w.heap[b]? =w.heap[b]? :=fun b hb _=>⟨⟨hs b hb.1,hb.2⟩,rfl⟩;exact⟨⟨aN,cN,aD,cD,aE,cE,h1,h2,h3,h4,h8.move acu hk,h9.move acu hk,h10.move acu hk,h11⟩,hs _ h.own,hl⟩
theorem gX.grow(h:gX F w r T D E)(hb:Below w.heap.size w w'):gX (Grow F w w') w' r T D E:=
 (h.below hb acu).mono (fun b hb=> .inl hb) fun b hx=>by
  rcases hx with hx|hx
  ·have:=h.low b hx;have:=hb.size;omega
  ·exact hx.2
theorem dS.same{v:Value}(h:gX F w r T D E)(hb:Below w.heap.size w w'):dS F w r T D E v (.returned v) w':=
 ⟨rfl,Keeps.mono (Keeps.below hb) (fun x hx hf=>by omega),h.grow hb⟩
theorem dS.trans{T2:aA}{D2:List (List UInt8)}{E2:List jT}{v v2:Value}{e e2:Ending}(hw:∀b,F b→b<w.heap.size)(h:dS F w r T' D' E' v e w')(k:dS (Grow F w w') w' r T2 D2 E2 v2 e2 w2):dS F w r T2 D2 E2 v2 e2 w2:=by
 refine⟨k.1,h.2.1.trans k.2.1 (fun x _ hx=>hx),k.2.2.mono (fun b hb=> ?_) fun b hx=> ?_⟩
 ·rcases hb with(hb|hb)|hb
  ·exact .inl hb
  ·exact .inr ⟨hb.1,Nat.lt_of_lt_of_le hb.2 k.2.1.size⟩
  ·exact .inr ⟨aax h.2.1.size hb.1,hb.2⟩
 ·rcases hx with hx|hx
  ·have:=hw b hx;have:=h.2.1.size;have:=k.2.1.size;omega
  ·exact hx.2
theorem dS.behind{v:Value}{e:Ending}(hw:∀b,F b→b<w.heap.size)(hb:Below w.heap.size w w')(k:dS F w' r T D E v e w2):dS F w r T D E v e w2:=by
 refine⟨k.1,(Keeps.mono (Keeps.below hb) (fun x hx hf=>by omega)).trans k.2.1 (fun x _ hx=>hx),k.2.2.mono (fun b hx=> ?_) fun b hx=> ?_⟩
 ·rcases hx with hx|hx
  ·exact .inl hx
  ·exact .inr ⟨aax hb.size hx.1,hx.2⟩
 ·rcases hx with hx|hx
  ·have:=hw b hx;have:=hb.size;have:=k.2.1.size;omega
  ·exact hx.2
theorem dS.then_{v:Value}{e:Ending}(k:dS F w r T D E v e w')(hw:∀b,F b→b<w.heap.size)(hb:Below w'.heap.size w' w2):dS F w r T D E v e w2:=by
 have h1:=k.2.2.below hb acu;refine⟨k.1,k.2.1.trans (fp':=fun x=>w'.heap.size≤x) (Keeps.below hb) (fun x hx hf=>by have:=k.2.1.size;omega),h1.mono (fun b hx=> ?_) fun b hx=> ?_⟩
 ·rcases hx with hx|hx
  ·exact .inl hx
  ·exact .inr ⟨hx.1,Nat.lt_of_lt_of_le hx.2 hb.size⟩
 ·rcases hx with hx|hx
  ·have:=hw b hx;have:=hb.size;have:=k.2.1.size;omega
  ·exact hx.2
theorem tO{a:Option Addr}{n:Nat}{vs:List Value}(hK:Keeps (fun x=>x=r) w w')(h:ah (Off F r) w a n vs):ah (Off (Grow F w w') r) w' a n vs:=
 h.move hK.size fun b hb hbw=>⟨⟨.inl hb.1,hb.2⟩,hK.block b hbw hb.2⟩
theorem Cv{a:Option Addr}{n:Nat}{vs:List Value}(hr:r<w.heap.size)(h:ah (New w w') w' a n vs):ah (Off (Grow F w w') r) w' a n vs:=
 h.mono fun b hb=>⟨.inr hb,fun e=>by have:=hb.1;omega⟩
theorem UE(hw:∀b,F b→b<w.heap.size)(hs:w.heap.size≤w'.heap.size):∀b,Grow F w w' b→b<w'.heap.size:=fun b hx=>by
 rcases hx with hx|hx
 ·have:=hw b hx;omega
 ·exact hx.2
theorem gX.turn(h:gX F w r T D E)(hK:Keeps (fun x=>x=r) w w'){aN aD aE:Option Addr}{cN cD cE:Nat}(hh:w'.heap[r]? =some (.cells #[.slice aN T'.length cN,.slice aD D'.length cD,.slice aE E'.length cE] 113 (0,0)))
  (h1:T'.length≤cN)(h2:D'.length≤cD)(h3:E'.length≤cE)(hN:ah (Off (Grow F w w') r) w' aN (T'.length*6) (T'.flatMap dM))(hD:BytesAt (Off (Grow F w w') r) w' aD D')(hE:ah (Off (Grow F w w') r) w' aE (E'.length*3) (E'.flatMap fH))(hB:Base aE cE):gX (Grow F w w') w' r T' D' E':=
 ⟨⟨aN,cN,aD,cD,aE,cE,hh,h1,h2,h3,hN,hD,hE,hB⟩,.inl h.own,UE h.low hK.size⟩
theorem gX.names(h:gX F w r T D E)(hl:T'.length=T.length)(hn:T'.flatMap dM=T.flatMap dM):gX F w r T' D E:=by
 obtain⟨aN,cN,aD,cD,aE,cE,h1,h2,h3,h4,h8,h9,h10,h11⟩:=h.head;exact⟨⟨aN,cN,aD,cD,aE,cE,by rw[hl];exact h1,by rw[hl];exact h2,h3,h4,by rw[hl,hn];exact h8,h9,h10,h11⟩,h.own,h.low⟩
end
def Plain(w:World)(a:Option Addr):Prop:=∀g off,a=some ⟨g,off,none⟩→∃cs t,w.heap[g]? =some (.cells cs t (0,0))
theorem Plain.kept{w w':World}{a:Option Addr}(h:Plain w a)(hk:∀g off,a=some ⟨g,off,none⟩→w'.heap[g]? =w.heap[g]?):Plain w' a:=fun g off e=>by
 obtain⟨cs,t,h1⟩:=h g off e;exact⟨cs,t,(hk g off e).trans h1⟩
theorem Plain.gI{w:World}{a:Option Addr}(h:Plain w a)(q:Addr)(v:Value)(hq:q.spot=none):Plain (w.setCell q v) a:=fun g off e=>by
 obtain⟨cs,t,h1⟩:=h g off e;obtain⟨b,o,sp⟩:=q;simp only at hq;subst hq;by_cases hb:g=b
 ·subst hb;exact⟨_,_,aO h1⟩
 ·exact⟨cs,t,(bA _ _ _ _ hb).trans h1⟩
theorem Plain.frozen{w:World}{g off:Nat}(h:Plain w (some ⟨g,off,none⟩))(j:Nat):w.frozen? ⟨g,j,none⟩=false:=by
 obtain⟨cs,t,h1⟩:=h g off rfl;simp[World.frozen?,h1]
theorem mo{w:World}{base:Nat}{e:TypeId}{k:Nat}{a:Option Addr}{m n c:Nat}{xs:List Value}(h:w.ownsRow base e k (.slice a m c) n xs):Plain w a:=fun g off he=>by
 subst he;obtain⟨_,h2⟩:=h;rcases h2 with⟨h2,_⟩|⟨g',cap,cur,h2,hg,hcur,_⟩
 ·cases h2
 ·simp only[aak,Pd,aaQ,aaI]at h2;obtain⟨⟨rfl,_⟩,_⟩:=h2;exact⟨_,_,hcur⟩
def bW(w:World)(r:Nat)(x1 x2:Value)(T:aA)(wx:World):Prop:=
 Keeps (fun x=>x=r) w wx∧r<w.heap.size∧∃a c,wx.heap[r]? =some (.cells #[.slice a T.length c,x1,x2] 113 (0,0))∧T.length≤c∧ah (New w wx) wx a (T.length*6) (T.flatMap dM)∧Plain wx a
theorem pF{w w1 w2:World}{e:TypeId}{k:Nat}{a:Option Addr}{m n c:Nat}{xs:List Value}(h:w2.ownsRow w1.heap.size e k (.slice a m c) n xs)(hs:n*k≤maxLen)(hw:w.heap.size≤w1.heap.size):m=n∧n≤c∧Base a c∧ah (New w w2) w2 a (n*k) xs:=by
 obtain⟨h1,h2,h3,h4⟩:=ah.nX h hs;exact⟨h1,h2,h3,h4.mono fun b hb=>⟨by omega,hb.2⟩⟩
theorem DT{w w1:World}{r j:Nat}{v:Value}{a:Option Addr}{n:Nat}{vs:List Value}(hr:r<w.heap.size)(h:ah (New w w1) w1 a n vs):ah (New w (w1.setCell ⟨r,j,none⟩ v)) (w1.setCell ⟨r,j,none⟩ v) a n vs:=
 (h.apart ⟨r,j,none⟩ v fun b hb=>by
  show b≠r;have:=hb.1;omega).mono fun b hb=>⟨hb.1,by rw[size_set];exact hb.2⟩
theorem bW.mk_{w w1:World}{r:Nat}{x0 x1 x2:Value}{T:aA}{a:Option Addr}{c:Nat}(hr:r<w.heap.size)(h1:w.heap[r]? =some (.cells #[x0,x1,x2] 113 (0,0)))(hb:Below w.heap.size w w1)(hc:T.length≤c)(hrow:ah (New w w1) w1 a (T.length*6) (T.flatMap dM))(hp:Plain w1 a):bW w r x1 x2 T (w1.setCell ⟨r,0,none⟩ (.slice a T.length c)):=by
 refine⟨(Keeps.mono (Keeps.below hb) (fun x hx hf=>by omega)).trans (Keeps.gI _ _ _) fun x _ hx=>hx,hr,a,c,?_,hc,DT hr hrow,hp.gI _ _ rfl⟩;rw[aO ((hb.block r hr).trans h1)];rfl
theorem bW.gI{w wx:World}{r:Nat}{x1 x2:Value}{T:aA}(h:bW w r x1 x2 T wx){g off c:Nat}(hc:wx.cell? ⟨r,0,none⟩=some (.slice (some ⟨g,off,none⟩) T.length c)){k j:Nat}{q q':Int×bJ}{v:Value}(hq:T[k]? =some q)(hj:j<6)(hv:dM q'=(dM q).set j v):bW w r x1 x2 (T.set k q') (wx.setCell ⟨g,off+(k*6+j),none⟩ v):=by
 obtain⟨hK,hr,a,c',h1,h2,h3,hp⟩:=h;have hc':wx.cell? ⟨r,0,none⟩=some (.slice a T.length c'):=by simp[World.cell?,h1]
 rw[hc']at hc;simp only[Pd,aak,abR]at hc;obtain⟨rfl,rfl⟩:=hc;have hk:k<T.length:=(aac.1 hq).1;obtain⟨b,o,e,hF,hb,-,-⟩:=h3.wide gK rfl hq (by omega);simp only[Pd,aaQ,aaI]at e;obtain⟨rfl,rfl⟩:=e;have hgr:g≠r:=fun e=>by have:=hF.1;omega
 refine⟨hK.trans (fp':=fun x=>x=g) (Keeps.gI wx ⟨g,off+(k*6+j),none⟩ v) (fun x hx hf=>by have:=hF.1;omega),hr,some ⟨g,off,none⟩,c',?_,by rw[aaV];exact h2,?_,?_⟩
 ·rw[bA _ _ _ _ (aaT hgr),aaV];exact h1
 ·have h4:=h3.gI (j:=k*6+j) (by omega) v;rw[Ar dM 6 gK hj hv T k hq]at h4;rw[aaV];exact h4.mono fun b hb=>⟨hb.1,by rw[size_set];exact hb.2⟩
 ·exact hp.gI _ _ rfl
theorem gX.tQ{F:Nat→Prop}{w wx:World}{r:Nat}{T T':aA}{D:List (List UInt8)}{E:List jT}{x0 x1 x2:Value}(h:gX F w r T D E)(h1:w.heap[r]? =some (.cells #[x0,x1,x2] 113 (0,0)))(hm:bW w r x1 x2 T' wx)(v:Value):dS F w r T' D E v (.returned v) wx:=by
 obtain⟨hK,hr,a,c,h2,h3,h4,-⟩:=hm;obtain⟨aN,cN,aD,cD,aE,cE,g1,-,g3,g4,-,g9,g10,g11⟩:=h.head;rw[h1]at g1;simp only[Pd,Obj.cells.injEq,Array.mk.injEq,aaU,aaI,abR]at g1;obtain⟨-,rfl,rfl⟩:=g1;refine⟨rfl,hK,h.turn hK h2 h3 g3 g4 (Cv hr h4) ?_ (tO hK g10) g11⟩;exact g9.move hK.size fun b hb2 hbw=>⟨⟨.inl hb2.1,hb2.2⟩,hK.block b hbw hb2.2⟩
def Each(F:Nat→Prop)(w:World)(vs:List Value)(bs:List (List UInt8)):Prop:=∀(i:Nat) (b:List UInt8),bs[i]? =some b→∃(a:Option Addr) (c:Nat),vs[i]? =some (.slice a b.length c)∧ny b.length c∧ah F w a b.length (b.map bv)
theorem Each.cut{F:Nat→Prop}{w:World}{vs:List Value}{bs:List (List UInt8)}(h:Each F w vs bs)(hl:vs.length=bs.length)(k:Nat)(hk:k<bs.length):Each F w (vs.take k++vs.drop (k+1)) (bs.take k++bs.drop (k+1)):=by
 intro i b hb;by_cases hi:i<k
 ·rw[aaN (by rw[List.length_take];omega),aaD,if_pos hi]at hb⊢;exact h i b hb
 ·rw[aaw (by rw[List.length_take];omega),List.length_take,abE]at hb⊢;rw[hl];exact h _ b hb
theorem Each.one{F:Nat→Prop}{w:World}{vs:List Value}{bs:List (List UInt8)}(h:Each F w vs bs)(hl:vs.length=bs.length):∀u∈vs,u.oneCell'=true:=by
 intro u hu;obtain⟨i,hi,rfl⟩:=List.mem_iff_getElem.1 hu;obtain⟨a,c,h1,-⟩:=h i bs[i] (List.getElem?_eq_getElem (by omega));rw[List.getElem?_eq_getElem hi]at h1;simp only[Pd]at h1;rw[h1];rfl
theorem Each.move{F F':Nat→Prop}{w w':World}{vs:List Value}{bs:List (List UInt8)}(h:Each F w vs bs)(hs:w.heap.size≤w'.heap.size)(hk:∀b,F b→b<w.heap.size→F' b∧w'.heap[b]? =w.heap[b]?):Each F' w' vs bs:=by
 intro i b hb;obtain⟨a,c,h3,h4,h5⟩:=h i b hb;exact⟨a,c,h3,h4,h5.move hs hk⟩
theorem gX.Gg{F:Nat→Prop}{w w1 w2:World}{r:Nat}{T T':aA}{D D':List (List UInt8)}{E:List jT}{x0 x1 x2:Value}(h:gX F w r T D E)(h1:w.heap[r]? =some (.cells #[x0,x1,x2] 113 (0,0)))(hm:bW w r x1 x2 T' w1)(hb:Below w1.heap.size w1 w2){a:Option Addr}{c:Nat}{vs:List Value}(hc:D'.length≤c)(hrow:ah (New w w2) w2 a D'.length vs)(he:Each (Off (Grow F w w2) r) w2 vs D')(v:Value):dS F w r T' D' E v (.returned v) (w2.setCell ⟨r,1,none⟩ (.slice a D'.length c)):=by
 obtain⟨hK,hr,aM,cM,h2,h3,h4,-⟩:=hm;obtain⟨aN,cN,aD,cD,aE,cE,g1,-,g3,g4,-,g9,g10,g11⟩:=h.head;rw[h1]at g1;simp only[Pd,Obj.cells.injEq,Array.mk.injEq,aaU,aaI,abR]at g1;obtain⟨-,rfl,rfl⟩:=g1;have hs1:=hK.size;have hs2:=hb.size;have hK2:Keeps (fun x=>x=r) w w2:=hK.trans (Keeps.below hb) (fun x hx hf=>by omega);have hK3:Keeps (fun x=>x=r) w (w2.setCell ⟨r,1,none⟩ (.slice a D'.length c)):=hK2.trans (Keeps.gI _ _ _) fun x _ hx=>hx;have hN2:ah (New w w2) w2 aM (T'.length*6) (T'.flatMap dM):=(h4.below hb acu).mono fun b hb=>⟨hb.1,Nat.lt_of_lt_of_le hb.2 hs2⟩;refine⟨rfl,hK3,h.turn hK3 ?_ h3 hc g4 (Cv hr (DT hr hN2)) ⟨vs,Cv hr (DT hr hrow),?_⟩ (tO hK3 g10) g11⟩
 ·rw[aO ((hb.block r (by omega)).trans h2)];rfl
 ·exact he.move (by rw[size_set];exact Nat.le_refl _) fun b hb2 _=>⟨⟨hb2.1.imp id fun h=>⟨h.1,by rw[size_set];exact h.2⟩,hb2.2⟩,bA _ _ _ _ hb2.2⟩
theorem eZ{P:Program}{S:Nat→Prop}{ops:Array Oper}{o:Oper}{a:Act}{w:World}{K:Act→World→Prop}{Q:Exit→Act→World→Prop}{E:Prop}(hgd:o.guard=none)(s x:Operand)(t:TypeId)
  (ho:o.op= .call {callee:= .builtin .append,args:= #[s,x],argTypes:= #[t,t]})
  (base:Nat)(e:TypeId)(i:TypeInfo)(z:Value)(k bytes:Nat)(ht:P.underlying t=some (.slice e))(hi:P.info? e=some i)(hz:i.zero=some z)
  (hsize:i.size=k)(hby:i.bytes=bytes)(hzs:z.cells.size=k)(hk:0<k)(v:Value)(n:Nat)(xs:List Value)(hs:a.eval s=v)(hown:w.ownsRow base e k v n xs)
  (A:Option Addr)(m c:Nat)(news:List Value)(hx:a.eval x= .slice A m c)(hr:ah S w A (m*k) news)(h1:∀u∈news,u.oneCell'=true)(h63:n+m≤maxLen)(hbytes:(n+m)*bytes≤140737488355328)(hbase:base≤w.heap.size)
  (h:∀A' c' w',w'.ownsRow base e k (.slice A' (n+m) c') (n+m) (xs++news)→Below base w w'→w.grownBy w' v.ownBlock→K (a.put o.dst (.slice A' (n+m) c')) w'):
  if Region.wanted o (yielded ops a.tmps)=true then Oper.wp P o a w K Q else E:=by
 have hw:Region.wanted o (yielded ops a.tmps)=true:=by simp[Region.wanted,hgd]
 rw[if_pos hw];obtain⟨A',c',w',hr,h2,h3,h4⟩:=oP (P:=P) base t o.type e i z k bytes ht hi hz hsize hby hzs hk v n xs hown A m c news hr h1 h63 hbytes hbase;unfold Oper.wp execOp;simp only[ho,resolve,invoke,builtin,abz,abF,abl,abt,List.map_cons,abg,hs,hx,hr];exact h A' c' w' h2 ⟨h3.os,h3.tape,h3.output,h3.size,fun b hb=>h3.block b (by omega) (fun e=>by have:=dA hown b e.symm;omega)⟩ h3
theorem ah.grown{S:Nat→Prop}{w w':World}{ob:Option Nat}{a:Option Addr}{n:Nat}{vs:List Value}(h:ah S w a n vs)(hg:w.grownBy w' ob)(hn:∀b,S b→b<w.heap.size→ob≠some b):ah S w' a n vs:=
 h.kept hg.size fun b hb hbw=>hg.block b hbw (fun e=>hn b hb hbw e.symm)
theorem gL{P:Program}{S:Nat→Prop}{w:World}{ops:Array Oper}{rest:List Oper}{o:Oper}{a:Act}{Q:Exit→Act→World→Prop}(hgd:o.guard=none)(s x:Operand)(t:TypeId)
  (ho:o.op= .call {callee:= .builtin .append,args:= #[s,x],argTypes:= #[t,t]})
  (base:Nat)(e:TypeId)(i:TypeInfo)(z:Value)(k bytes:Nat)(ht:P.underlying t=some (.slice e))(hi:P.info? e=some i)(hz:i.zero=some z)
  (hsize:i.size=k)(hby:i.bytes=bytes)(hzs:z.cells.size=k)(hk:0<k)(v:Value)(n:Nat)(xs:List Value)(hs:a.eval s=v)(hown:w.ownsRow base e k v n xs)
  (A:Option Addr)(m c:Nat)(news:List Value)(hx:a.eval x= .slice A m c)(hr:ah S w A (m*k) news)(h1:∀u∈news,u.oneCell'=true)(h63:n+m≤maxLen)(hbytes:(n+m)*bytes≤140737488355328)(hbase:base≤w.heap.size)
  (h:∀A' c' w',w'.ownsRow base e k (.slice A' (n+m) c') (n+m) (xs++news)→Below base w w'→wpList P ops Q rest (a.put o.dst (.slice A' (n+m) c')) w'):
  wpList P ops Q (o::rest) a w:=by
 refine abS hgd fun K hK=> ?_;obtain⟨A',c',w',hr,h2,h3,h4⟩:=oP (P:=P) base t o.type e i z k bytes ht hi hz hsize hby hzs hk v n xs hown A m c news hr h1 h63 hbytes hbase;unfold Oper.wp execOp;simp only[ho,resolve,invoke,builtin,abz,abF,abl,abt,List.map_cons,abg,hs,hx,hr];exact hK _ _ (h A' c' w' h2 ⟨h3.os,h3.tape,h3.output,h3.size,fun b hb=>h3.block b (by omega) (fun e=>by have:=dA hown b e.symm;omega)⟩)
def DU(w:World)(r:Nat)(E:List jT)(e:Ending)(w':World):Prop:=
 e= .returned (.tuple #[])∧∃a c w1,Below w.heap.size w w1∧w'=w1.setCell ⟨r,2,none⟩ (.slice a E.length c)∧E.length≤c∧Base a c∧ah (fun x=>w.heap.size≤x∧x<w1.heap.size) w1 a (E.length*3) (E.flatMap fH)
theorem DV{F:Nat→Prop}{w w':World}{r:Nat}{T:aA}{D:List (List UInt8)}{E E':List jT}{e:Ending}(h:gX F w r T D E)(hs:DU w r E' e w'):dS F w r T D E' (.tuple #[]) e w':=by
 obtain⟨rfl,a,c,w1,hb,rfl,hc,hz,hrow⟩:=hs;obtain⟨aN,cN,aD,cD,aE,cE,h1,h2,h3,h4,h8,h9,h10,h11⟩:=h.head;have hr:=h.low r h.own;have hK:Keeps (fun x=>x=r) w (w1.setCell ⟨r,2,none⟩ (.slice a E'.length c)):=(Keeps.mono (Keeps.below hb) (fun x hx hf=>by omega)).trans (Keeps.gI _ _ _) fun x _ hx=>hx;refine⟨rfl,hK,h.turn (aD:=aD) hK ?_ h2 h3 hc (tO hK h8) ?_ (Cv hr ?_) hz⟩
 ·rw[aO ((hb.block r hr).trans h1)];rfl
 ·exact h9.move hK.size fun b hb2 hbw=>⟨⟨.inl hb2.1,hb2.2⟩,hK.block b hbw hb2.2⟩
 ·refine(hrow.apart ⟨r,2,none⟩ _ fun b hb2=> ?_).mono fun b hb2=>⟨hb2.1,by rw[size_set];exact hb2.2⟩;show b≠r;have:=hb2.1;omega
section
variable{F:Nat→Prop}{r:Nat}{T:aA}{D:List (List UInt8)}{E:List jT}
theorem UF(k:Nat)(w:World)(E:List jT)(b off n cE:Nat)(hc2:w.cell? ⟨r,2,none⟩=some (.slice (some ⟨b,off,none⟩) n cE))(hrw:r<w.heap.size)(hfr:w.frozen? ⟨r,2,none⟩=false)(hn:E.length=n)(hcap:n≤cE)(hn6:n≤1000000)(hrow:ah F w (some ⟨b,off,none⟩) (n*3) (E.flatMap fH))(hk:k<n):
  Calls Tryz.prog 115 #[ptr r,.int .i64 k] w (DU w r (E.take k++E.drop (k+1))):=by
 obtain⟨i,hi,hz,h3,h32⟩:=aam Cu;have HI:=acr (And.intro hi (And.intro hz (And.intro h3 h32)));have qB:acs (∀w1,Below w.heap.size w w1→ah F w1 (some ⟨b,off,none⟩) (k*3) ((E.take k).flatMap fH)∧ah F w1 (if cE=k+1 then some ⟨b,off,none⟩else some ⟨b,off+(k+1)*3,none⟩) ((n-(k+1))*3) ((E.drop (k+1)).flatMap fH)):=fun w1 hb=>by
  have h1:=hrow.below hb acu;have h2:=h1.take (k*3);rw[qz fH 3 jI,abu (by omega)]at h2;have h4:=h1.drop ((k+1)*3);rw[qA fH 3 jI,←Nat.sub_mul]at h4;refine⟨h2,?_⟩;by_cases hce:cE=k+1
  ·rw[if_pos hce];exact ah.zero _ _ _ (by rw[show n-(k+1)=0 by omega,abG]) (by rw[aaC (by omega)];rfl)
  ·rw[if_neg hce];exact h4
 have i0:(0:Int)≤k:=by omega
 have i1:(k:Int)≤cE:=by omega
 have i2:(k:Int)+1≤n:=by omega
 have i3:(0:Int)≤(k:Int)+1:=by omega
 have i4:(n:Int)≤cE:=by omega
 have e1:IntKind.i64.wrap ((k:Int)+1)=(k:Int)+1:=aag _ (by omega);have hlt:(E.take k++E.drop (k+1)).length=k+(n-(k+1)):=by simp;omega
 have wB:=acr hlt;have iW:acs (∀w1,Below w.heap.size w w1→w1.cell? ⟨r,2,none⟩=some (.slice (some ⟨b,off,none⟩) n cE)∧w1.frozen? ⟨r,2,none⟩=false):=fun w1 hb=>⟨by rw[hb.cell (p:=⟨r,2,none⟩) hrw];exact hc2,by rw[hb.frozen (p:=⟨r,2,none⟩) hrw];exact hfr⟩;clear hi hz h3 h32 hrow hlt;go_enter Tryz.func115,Tryz.ntmps115;go_wp2;refine wQ 19 ((fun w'=>w'.cell? ⟨r,2,none⟩=some (.slice (some ⟨b,off,none⟩) n cE)∧w'.frozen? ⟨r,2,none⟩=false)) ?_ fun hS=> ?_
 ·exact iW.o _ acv.drew
 refine aC 0 hS ?_;refine aC 2 hS ?_;refine aC 3 hS ?_;refine aC 4 hS ?_;refine aC 5 hS ?_;refine aC 6 hS ?_;refine aC 7 hS ?_;refine aC 9 hS ?_;refine aC 10 hS ?_;refine aC 11 hS ?_;refine aC 12 hS ?_;refine aC 13 hS ?_;refine aC 14 hS ?_;refine aC 15 hS ?_;refine bU 1 fun K hK=> ?_;go_simp;refine bV hK (iW.o _ (acv.drew.alloc acu _)) fun hS=> ?_;clear hK K;refine bU 8 fun K hK=> ?_;refine au (by rfl) (.tmp 5) (.tmp 11) 111 (by rfl) w.heap.size 146 i _ 3 32 Tryz.underlying111 HI.o.1 HI.o.2.1 HI.o.2.2.1 HI.o.2.2.2 rfl (by omega) _ 0 [] (by rfl) (fT (MapKept.heap_alloc w.drew _).1 acu) _ k _ ((E.take k).flatMap fH) (by rfl) (qB.o _ (acv.drew.alloc acu _)).1 (m_ _) (by unfold maxLen;omega) (by omega) (by simp) ?_;intro A1 c1 w1 hown1 hb1;have hB1:Below w.heap.size w w1:=(acv.drew.alloc acu _).trans hb1;refine bV hK (iW.o _ hB1) fun hS=> ?_;clear hK K;refine bU 16 fun K hK=> ?_;refine au (by rfl) (.tmp 12) (.tmp 19) 111 (by rfl) w.heap.size 146 i _ 3 32 Tryz.underlying111 HI.o.1 HI.o.2.1 HI.o.2.2.1 HI.o.2.2.2 rfl (by omega) _ _ _ (by rfl) hown1 _ (n-(k+1)) _ ((E.drop (k+1)).flatMap fH) (by rfl) (qB.o _ hB1).2 (m_ _) (by unfold maxLen;omega) (by omega) hB1.size ?_;intro A2 c2 w2 hown2 hb2;have hB2:Below w.heap.size w w2:=hB1.trans hb2;refine bV hK (iW.o _ hB2) fun hS=> ?_;clear hK K;refine aC 17 hS ?_;refine aC 18 hS ?_;refine bU 19 fun K hK=> ?_;go_simp;refine nk hK ?_;clear hS hK K;go_wp2
 all_goals (
  go_end0
  have hl:=wB.o;have e5:0+k+(n-(k+1))=(E.take k++E.drop (k+1)).length:=by omega
  obtain⟨-,hcc,hnz,hrow2⟩:=ah.nX hown2 (by unfold maxLen;omega);rw[List.nil_append,←aaG,e5]at hrow2;rw[e5]at hcc;refine⟨rfl,A2,c2,w2,hB2,?_,hcc,hnz,hrow2⟩;rw[hl])
theorem OJ(k:Nat)(w:World)(h:gX F w r T D E)(hk:k<E.length)(hn6:E.length≤1000000):
  Calls Tryz.prog 115 #[ptr r,.int .i64 k] w (dS F w r T D (E.take k++E.drop (k+1)) (.tuple #[])):=by
 obtain⟨aN,cN,aD,cD,aE,cE,h1,h2,h3,h4,h8,h9,h10,h11⟩:=h.head;obtain⟨b,off,rfl,hF,hb,hi,hc⟩:=h10.wide jI rfl (List.getElem?_eq_getElem hk) (by omega);exact(UF k w E b off E.length cE (by simp[World.cell?,h1]) (h.low r h.own) (ah.frozen h1 rfl) rfl h4 hn6 h10 hk).mono fun e w' hs=>DV h hs
end
end Go.Proofs.YtjnhnlabpccgjaaGreatDoor
