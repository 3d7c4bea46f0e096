/- The reference's lists, plainly: what becomes of the nodes and of the entries. The reference: Look, place, file, rights. Rows whose elements have more than one cell: append. -/
import Derived.Test.YtohpcppeajijnaaGreatM22
import Derived.Test.YtohpcppeajijnaaGreatM19
namespace Go.Proofs.YtohpcppeajijnaaGreat
open Go.ChangeShapes Go.WideShapes Go.ChangeAt Go.RowKit
set_option linter.unusedVariables false
set_option linter.unusedSimpArgs false
theorem CP:∀a b:List UInt8,Op.bytesLess a b=bytesBefore a b
 |[],[]=>rfl
 |[],_::_=>rfl
 |_::_,[]=>rfl
 |x::r,y::s=>by
  unfold Op.bytesLess bytesBefore
  rw[CP r s]
def jo (d:Int) (nm:Nm) (e:iF):Bool:=decide (e.1<d)||(decide (e.1=d)&&bytesBefore e.2.1 nm)
def lW (E:List iF) (d:Int) (nm:Nm) (id:Int):List iF:=E.takeWhile (jo d nm)++(d,nm,id)::E.dropWhile (jo d nm)
theorem qc {α:Type} {p:α→Bool}:∀{l:List α} {k:Nat},(l.take k).all p=true→(∀x,l[k]? =some x→p x=false)→k≤l.length→l.takeWhile p=l.take k∧l.dropWhile p=l.drop k
 |[],k,_,_,hk=>by simp
 |y::r,0,_,h,_=>by
  have:=h y (by simp)
  simp[this]
 |y::r,k+1,ha,h,hk=>by
  simp only[List.take_succ_cons,List.all_cons,Bool.and_eq_true]at ha
  obtain⟨h1,h2⟩:=qc (l:=r) (k:=k) ha.2 (fun x hx=>h x (by simpa using hx)) (by simpa using hk)
  simp[ha.1,h1,h2]
section
variable {κ α:Type} {lt:κ→κ→Bool}
theorem yc (L:kr lt) (x:κ×α):∀(l:List (κ×α)),(∀p∈l,p.1≠x.1)→h_ lt x l=l.takeWhile (fun y=>lt y.1 x.1)++x::l.dropWhile (fun y=>lt y.1 x.1)∨¬aP lt l
 |[],_=> .inl (by simp[h_])
 |y::r,hn=>by
  have hy:y.1≠x.1:=hn y (by simp)
  have no:∀a b,lt a b=true→lt b a=false:=fun a b h=>by
   cases h3:lt b a with
   |false=>rfl
   |true=>have:=L.trans _ _ _ h h3;rw[L.Oa]at this;cases this
  by_cases hs:aP lt (y::r)
  ·left
   rcases L.tot y.1 x.1 hy with h|h
   ·have h2:=no _ _ h
    unfold h_
    rcases yc L x r (fun p hp=>hn p (by simp[hp]))with h3|h3
    ·rw[if_neg (by rw[h2];decide),List.takeWhile_cons,List.dropWhile_cons,if_pos h,if_pos h,h3]
     rfl
    ·exact absurd (List.pairwise_cons.1 hs).2 h3
   ·have h2:=no _ _ h
    unfold h_
    rw[if_pos h,List.takeWhile_cons,List.dropWhile_cons,if_neg (by rw[h2];decide),if_neg (by rw[h2];decide)]
    rfl
  ·exact .inr hs
end
theorem D5 {d id:Int} {nm:Nm} {A B:List iF} (h:∀e∈A,jo d nm e=true):lW (A++B) d nm id=A++lW B d nm id:=by
 unfold lW
 rw[List.takeWhile_append_of_pos h,List.dropWhile_append_of_pos h,List.append_assoc]
theorem Bb {α:Type} {p:α→Bool}:∀{B:List α},(∀e∈B,p e=false)→B.takeWhile p=[]∧B.dropWhile p=B
 |[],_=>⟨rfl,rfl⟩
 |e::r,h=>by
  have:=h e (by simp)
  simp[this]
theorem xu {d id:Int} {nm:Nm} {B:List iF} (h:∀e∈B,jo d nm e=false):∀A:List iF,lW (A++B) d nm id=lW A d nm id++B
 |[]=>by
  obtain⟨h1,h2⟩:=Bb h
  unfold lW
  rw[List.nil_append,h1,h2]
  simp
 |e::r=>by
  have ih:=xu (id:=id) h r
  unfold lW at ih⊢
  rw[List.cons_append,List.takeWhile_cons,List.dropWhile_cons,List.takeWhile_cons,List.dropWhile_cons]
  cases he:jo d nm e with
  |true=>
   simp only[if_true,List.cons_append,ih]
  |false=>simp
theorem dK (y:Int×bF) (r:aH):aU (y::r)=jh y++aU r:=by unfold aU;rw[List.flatMap_cons]
theorem yg {T:aH} {e:iF} (h:e∈aU T):∃q∈T,q.1=e.1∧e.2∈q.2.names:=by
 unfold aU at h
 obtain⟨q,hq,he⟩:=List.mem_flatMap.1 h
 obtain⟨y,hy,rfl⟩:=List.mem_map.1 he
 exact⟨q,hq,rfl,hy⟩
theorem kU (k:Int) (f:bF→bF) (y:Int×bF) (r:aH):bf k f (y::r)=(if y.1=k then(y.1,f y.2)else y)::bf k f r:=rfl
theorem xw {k:Int} {f:bF→bF} {r:aH} (h:∀q∈r,q.1≠k):bf k f r=r:=by
 unfold bf
 conv=>rhs;rw[←List.map_id r]
 apply List.map_congr_left
 intro q hq
 rw[if_neg (h q hq)]
 rfl
theorem vB {d id:Int} {nm:Nm}:∀{T:aH} {x:bF},aP iC T→aj d T=some x→aP bytesBefore x.names→aj nm x.names=none→lW (aU T) d nm id=aU (setName T d nm id)
 |[],x,_,hx,_,_=>by cases hx
 |y::r,x,hs,hx,hns,hn=>by
  obtain⟨h1,h2⟩:=List.pairwise_cons.1 hs
  rw[fF]at hx
  unfold setName
  rw[kU,dK,dK]
  by_cases hy:y.1=d
  ·rw[if_pos hy]at hx
   cases hx
   rw[if_pos hy,xw (fun q hq=>by have:=h1 q hq;simp at this;omega)]
   rw[xu (fun e he=>by
    obtain⟨q,hq,hk,_⟩:=yg he
    have:=h1 q hq
    simp only[decide_eq_true_eq]at this
    unfold jo
    have a1:¬e.1<d:=by omega
    have a2:¬e.1=d:=by omega
    simp[a1,a2])]
   congr 1
   unfold lW jh
   have hp:(jo d nm)∘(fun e:Nm×Int=>((y.1,e.1,e.2):iF))=fun e=>bytesBefore e.1 nm:=by
    funext e
    simp[jo,hy]
   rw[List.takeWhile_map,List.dropWhile_map,hp]
   have hk:∀p∈y.2.names,p.1≠nm:=ji.1 hn
   unfold bY
   rw[jJ hn]
   rcases yc uD (nm,id) y.2.names hk with h3|h3
   ·rw[h3,List.map_append,List.map_cons,hy]
   ·exact absurd hns h3
  ·rw[if_neg hy]at hx
   rw[if_neg hy]
   have hlt:=h1 _ (cu hx)
   simp only[decide_eq_true_eq]at hlt
   rw[D5 (fun e he=>by
    obtain⟨z,hz,rfl⟩:=List.mem_map.1 he
    unfold jo
    simp[hlt])]
   rw[vB h2 hx hns hn]
   rfl
theorem qd {α:Type} {p:α→Bool}:∀{l:List α} {k:Nat} {x:α},l[k]? =some x→p x=true→l.Pairwise (fun a b=>¬(p a=true∧p b=true))→l.take k++l.drop (k+1)=l.filter fun a=> !p a
 |[],k,x,h,_,_=>by simp at h
 |y::r,0,x,h,hp,hw=>by
  simp only[List.getElem?_cons_zero,Option.some.injEq]at h
  subst h
  have h1:=(List.pairwise_cons.1 hw).1
  simp only[List.take_zero,List.nil_append,Nat.zero_add,List.drop_succ_cons,List.drop_zero,List.filter_cons,hp,Bool.not_true]
  rw[if_neg (by decide)]
  symm
  rw[List.filter_eq_self]
  intro a ha
  cases hpa:p a with
  |false=>rfl
  |true=>exact absurd ⟨hp,hpa⟩ (h1 a ha)
 |y::r,k+1,x,h,hp,hw=>by
  obtain⟨h1,h2⟩:=List.pairwise_cons.1 hw
  have hx:r[k]? =some x:=by simpa using h
  have hy:p y=false:=by
   cases hpy:p y with
   |false=>rfl
   |true=>exact absurd ⟨hpy,hp⟩ (h1 x (List.mem_of_getElem? hx))
  rw[List.take_succ_cons,List.drop_succ_cons,List.cons_append,qd hx hp h2,List.filter_cons,hy]
  rfl
theorem Bc {T:aH} (hs:aP iC T) (hn:∀q∈T,aP bytesBefore q.2.names) (d:Int) (nm:Nm):(aU T).Pairwise fun a b=>¬(gB d nm a=true∧gB d nm b=true):=by
 unfold aU
 rw[List.pairwise_flatMap]
 refine⟨fun q hq=> ?_,?_⟩
 ·unfold jh
  rw[List.pairwise_map]
  refine List.Pairwise.imp (fun{a b} hab=> ?_) (hn q hq)
  simp only[gB,decide_eq_true_eq]
  rintro ⟨⟨_,h1⟩,_,h2⟩
  rw[h1,h2,uD.Oa]at hab
  cases hab
 ·refine List.Pairwise.imp (fun{a b} hab=> ?_) hs
  intro x hx y hy
  obtain⟨x',_,rfl⟩:=List.mem_map.1 hx
  obtain⟨y',_,rfl⟩:=List.mem_map.1 hy
  simp only[gB,decide_eq_true_eq]
  rintro ⟨⟨h1,_⟩,h2,_⟩
  simp only[decide_eq_true_eq]at hab
  omega
theorem vC (d:Int) (nm:Nm):∀T:aH,(aU T).filter (fun e=> !gB d nm e)=aU (aA T d nm)
 |[]=>rfl
 |y::r=>by
  have ih:=vC d nm r
  unfold aA at ih⊢
  rw[kU,dK,dK,List.filter_append,ih]
  congr 1
  unfold jh
  rw[List.filter_map]
  by_cases hy:y.1=d
  ·rw[if_pos hy]
   unfold bH
   simp only
   congr 1
   apply List.filter_congr
   intro e _
   simp[gB,hy]
  ·rw[if_neg hy]
   congr 1
   rw[List.filter_eq_self]
   intro e _
   simp[gB,hy]
theorem xA {x:Int×bF} (hx:x.2.names=[]):∀T:aH,aU (h_ iC x T)=aU T
 |[]=>by
  unfold h_
  rw[dK];unfold jh;rw[hx];rfl
 |y::r=>by
  unfold h_
  split
  ·rw[dK];unfold jh;rw[hx];rfl
  ·rw[dK,dK,xA hx r]
theorem vD {T:aH} {f kind:Int} (hf:aj f T=none):aU (bY iC f (bq kind) T)=aU T:=by
 unfold bY
 rw[jJ hf]
 exact xA (x:=(f,bq kind)) rfl T
theorem zy {id:Int}:∀{T:aH},(∀q∈T,q.1=id→q.2.names=[])→aU (bH id T)=aU T
 |[],_=>rfl
 |y::r,h=>by
  have ih:=zy (T:=r) (id:=id) fun q hq=>h q (by simp[hq])
  unfold bH at ih⊢
  rw[List.filter_cons]
  by_cases hy:y.1=id
  ·have:=h y (by simp) hy
   simp only[hy,decide_true,Bool.not_true]
   rw[if_neg (by decide),ih,dK]
   unfold jh
   rw[this];rfl
  ·simp only[hy,decide_false,Bool.not_false,if_true]
   rw[dK,dK,ih]
theorem jP {id:Int} {f:bF→bF} (hf:∀x,(f x).names=x.names):∀T:aH,aU (bf id f T)=aU T
 |[]=>rfl
 |y::r=>by
  rw[kU,dK,dK,jP hf r]
  congr 1
  by_cases hy:y.1=id
  ·rw[if_pos hy];unfold jh;simp only;rw[hf]
  ·rw[if_neg hy]
theorem vE (id:Int):∀T:aH,aU (eu T id)=(aU T).filter fun e=> !decide (e.2.2=id)
 |[]=>rfl
 |y::r=>by
  have:eu (y::r) id=(y.1,fC id y.2)::eu r id:=rfl
  rw[this,dK,dK,List.filter_append,vE id r]
  congr 1
  unfold jh fC
  simp only
  rw[List.filter_map]
  rfl
theorem Gw {T:aH} (hs:aP iC T) (id:Int):T.Pairwise fun a b=>¬(lH id a=true∧lH id b=true):=by
 refine List.Pairwise.imp (fun{a b} hab=> ?_) hs
 simp only[lH,decide_eq_true_eq]
 simp only[decide_eq_true_eq]at hab
 omega
theorem Mr {T:aH} (hs:aP iC T) {k:Nat} {q:Int×bF} (hq:T[k]? =some q):T.take k++T.drop (k+1)=bH q.1 T:=by
 rw[qd (p:=lH q.1) hq (by simp[lH]) (Gw hs q.1)]
 rfl
theorem kN {f:bF→bF}:∀{T:aH} {k:Nat} {q:Int×bF},aP iC T→T[k]? =some q→T.set k (q.1,f q.2)=bf q.1 f T
 |[],k,q,_,h=>by simp at h
 |y::r,0,q,hs,h=>by
  simp only[List.getElem?_cons_zero,Option.some.injEq]at h
  subst h
  obtain⟨h1,_⟩:=List.pairwise_cons.1 hs
  rw[kU,if_pos rfl,xw (fun p hp=>by have:=h1 p hp;simp at this;omega)]
  rfl
 |y::r,k+1,q,hs,h=>by
  obtain⟨h1,h2⟩:=List.pairwise_cons.1 hs
  have hx:r[k]? =some q:=by simpa using h
  have:=h1 q (List.mem_of_getElem? hx)
  simp only[decide_eq_true_eq]at this
  rw[kU,if_neg (by omega),←kN h2 hx]
  rfl
theorem qg {id:Int} {f:bF→bF} (hf:∀x,bV (id,f x)=bV (id,x)):∀T:aH,(bf id f T).flatMap bV=T.flatMap bV
 |[]=>rfl
 |y::r=>by
  rw[kU,List.flatMap_cons,List.flatMap_cons,qg hf r]
  congr 1
  by_cases hy:y.1=id
  ·rw[if_pos hy,hy,hf,←hy]
  ·rw[if_neg hy]
theorem kV {id:Int} {f:bF→bF} (hf:∀x,(f x).b=x.b) (T:aH):(bf id f T).map (fun q=>q.2.b)=T.map fun q=>q.2.b:=by
 unfold bf
 rw[List.map_map]
 apply List.map_congr_left
 intro q _
 by_cases h:q.1=id<;>simp[h,hf]
theorem zA (id:Int) (T:aH):(eu T id).flatMap bV=T.flatMap bV:=by
 unfold eu
 rw[List.flatMap_map]
 rfl
theorem Bd (id:Int) (T:aH):(eu T id).map (fun q=>q.2.b)=T.map fun q=>q.2.b:=by
 unfold eu
 rw[List.map_map]
 rfl
theorem data_set {f:bF→bF} {T:aH} {k:Nat} {q:Int×bF} (hs:aP iC T) (hq:T[k]? =some q):(bf q.1 f T).map (fun q=>q.2.b)=(T.map fun q=>q.2.b).set k (f q.2).b:=by
 rw[←kN hs hq,List.map_set]
theorem Ms {T:aH} (hs:aP iC T) {f:Int} (x:bF) (hf:aj f T=none):bY iC f x T=T.takeWhile (fun q=>decide (q.1<f))++(f,x)::T.dropWhile fun q=>decide (q.1<f):=by
 unfold bY
 rw[jJ hf]
 rcases yc dR (f,x) T (ji.1 hf)with h|h
 ·exact h
 ·exact absurd hs h
theorem gZ {T:aH} (hT:dA T):(aU T).length≤4096:=by
 have h1:=Aj (fun e:iF=>e.2.2) 64 (T.map (·.1)) (aU T) (fun e he=>by
  obtain⟨x,hx,hm⟩:=(iZ hT.sorted).1 he
  obtain⟨y,hy⟩:=Option.isSome_iff_exists.1 (hT.leads _ x hx e.2 hm).1
  exact List.mem_map.2 ⟨_,cu hy,rfl⟩) (fun j hj=>by
   have hcnt:(aU T).countP (fun e=>decide (e.2.2=j))=fZ T j:=by
    unfold aU fZ cn
    rw[List.countP_flatMap]
    congr 1
    apply List.map_congr_left
    intro q _
    unfold jh
    simp only[Function.comp_apply,List.countP_map]
    rfl
   rw[hcnt]
   by_cases h0:j=0
   ·have:(aU T).countP (fun e=>decide (e.2.2=j))=0:=by
     rw[List.countP_eq_zero]
     intro e he
     obtain⟨x,hx,hm⟩:=(iZ hT.sorted).1 he
     have:=(hT.leads _ x hx e.2 hm).2
     simp[h0,this]
    omega
   ·obtain⟨q,hq,rfl⟩:=List.mem_map.1 hj
    have hy:=bX dR hT.sorted hq
    have h2:=hT.counts _ _ hy h0
    have h3:=(hT.each _ _ hy).links
    omega)
 have:=hT.len
 rw[List.length_map]at h1
 omega
theorem sS {S S':Nat→Prop} (a:Option Addr) (n c:Nat) (ls:List Nm) (a':Option Addr) (n' c':Nat) (ls':List Nm) (w:World) (hS:aG S w a n (ls.map strOf)) (hS':aG S' w a' n' (ls'.map strOf)):
  Calls Tryz.prog 71 #[.slice a n c, .slice a' n' c'] w fun e w'=>e= .returned (.int .i64 (ig ls ls'))∧Below w.heap.size w w':=by
 have H1:=Lib.hid (nk a n c ls w hS)
 have H2:=Lib.hid (fun w1 (hb:Below w.heap.size w w1)=>nk a' n' c' ls' w1 (hS'.below hb (Nat.le_refl _)))
 clear hS hS'
 unfold ig
 by_cases h0:bO ls=0
 ·rw[h0]at H1
  rw[if_neg (by rw[h0];simp)]
  clear h0
  go_enter Tryz.func71,Tryz.ntmps71
  go_wp2_with fail
  (with_reducible refine H1.out.mono ?_)
  rintro e w1 ⟨rfl,hb1⟩
  have HB1:=Lib.hid hb1
  clear hb1
  go_wp2_with fail
  (with_reducible refine(H2.out w1 HB1.out).mono ?_)
  rintro e w2 ⟨rfl,hb2⟩
  go_wp2_with fail
  go_ret
  exact⟨rfl,HB1.out.trans (hb2.mono HB1.out.size)⟩
 ·rw[if_pos h0]
  have hne:(bO ls==0)=false:=by simpa using h0
  have hne2:(bO ls !=0)=true:=by simpa using h0
  clear h0
  go_enter Tryz.func71,Tryz.ntmps71
  go_wp2_with fail
  (with_reducible refine H1.out.mono ?_)
  rintro e w1 ⟨rfl,hb1⟩
  go_wp2_with fail
  go_ret
  exact⟨rfl,hb1⟩
section
variable {F:Nat→Prop} {r:Nat} {T:aH}
theorem xB {S:Nat→Prop} (a:Option Addr) (n c:Nat) (ls:List Nm) (w:World) (h:gU F w r T) (hT:dA T) (hE:(aU T).length≤1000000) (hS:aG S w a n (ls.map strOf)):
  Calls Tryz.prog 67 #[ptr r, .slice a n c] w fun e w'=>e= .returned (.tuple #[.int .i64 (iD T ls).1, .int .i64 (iD T ls).2])∧Below w.heap.size w w':=by
 have H1:=Lib.hid (nk a n c ls w hS)
 have H2:=Lib.hid (fun w1 (hb:Below w.heap.size w w1)=>pq a n c ls w1 (h.below hb (Nat.le_refl _)) hT hE (hS.below hb (Nat.le_refl _)))
 clear hS h hT hE
 unfold iD
 by_cases h0:bO ls=0
 ·rw[h0]at H1
  rw[if_neg (by rw[h0];simp)]
  clear h0
  go_enter Tryz.func67,Tryz.ntmps67
  go_wp2_with fail
  (with_reducible refine H1.out.mono ?_)
  rintro e w1 ⟨rfl,hb1⟩
  have HB1:=Lib.hid hb1
  clear hb1
  go_wp2_with fail
  (with_reducible refine(H2.out w1 HB1.out).mono ?_)
  rintro e w2 ⟨rfl,hb2⟩
  go_wp2_with fail
  go_ret2
  exact⟨rfl,HB1.out.trans (hb2.mono HB1.out.size)⟩
 ·rw[if_pos h0]
  have hne:(bO ls==0)=false:=by simpa using h0
  have hne2:(bO ls !=0)=true:=by simpa using h0
  clear h0
  go_enter Tryz.func67,Tryz.ntmps67
  go_wp2_with fail
  (with_reducible refine H1.out.mono ?_)
  rintro e w1 ⟨rfl,hb1⟩
  go_wp2_with fail
  go_ret2
  exact⟨rfl,hb1⟩
def zB (T:aH) (id:Int):Int:=if bK T id=0 then lU (lH id) T else 0
set_option maxHeartbeats 1000000 in
theorem mM (id:Int) (w:World) (h:gU F w r T) (hT:tF T):Calls Tryz.prog 78 #[ptr r, .int .i64 id] w fun e w'=>e= .returned (.tuple #[.int .i64 (zB T id), .int .i64 (bK T id)])∧w=w':=by
 have HR:=Lib.hid (o_ id w h hT.len)
 have hr0:=h.low r h.own
 cases hx:aj id T with
 |none=>
  have e1:bK T id=20:=by unfold bK;rw[hx]
  have e2:zB T id=0:=by unfold zB;simp only[e1];rfl
  rw[qL hx]at HR
  rw[e1,e2]
  clear h hx hT e1 e2
  go_enter Tryz.func78,Tryz.ntmps78
  go_wp2_with fail
  (with_reducible refine HR.out.mono ?_)
  rintro e w1 ⟨rfl,rfl⟩
  go_wp2_with fail
  go_ret2
  exact⟨rfl,rfl⟩
 |some x=>
  obtain⟨k,hk,hq⟩:=iO hT.sorted hx
  rw[hk]at HR
  obtain⟨b,off,c,hc0,hF,hb,hkl,c0,c1,c2,c3,c4,c5⟩:=h.node hq
  have i0:(0:Int)≤k:=by omega
  have i1:(k:Int)<T.length:=by omega
  have i2:¬(k:Int)<0:=by omega
  simp only at c0 c1 c2 c3 c4 c5
  by_cases hk2:x.kind=2
  ·have e1:bK T id=22:=by unfold bK;rw[hx];exact if_pos hk2
   have e2:zB T id=0:=by unfold zB;simp only[e1];rfl
   rw[e1,e2]
   rw[hk2]at c1
   clear hk2 e1 e2 h hx hk hq hT
   go_enter Tryz.func78,Tryz.ntmps78
   go_wp2_with fail
   (with_reducible refine HR.out.mono ?_)
   rintro e w1 ⟨rfl,rfl⟩
   go_wp2_with fail
   go_ret2
   exact⟨rfl,rfl⟩
  ·have e1:bK T id=0:=by unfold bK;rw[hx];exact if_neg hk2
   have e2:zB T id=k:=by unfold zB;simp only[e1];exact hk
   rw[e1,e2]
   have e3:(x.kind==2)=false:=by simpa using hk2
   clear hk2 e1 e2 h hx hk hq hT
   go_enter Tryz.func78,Tryz.ntmps78
   go_wp2_with fail
   (with_reducible refine HR.out.mono ?_)
   rintro e w1 ⟨rfl,rfl⟩
   go_wp2_with fail
   go_ret2
   exact⟨rfl,rfl⟩
set_option maxHeartbeats 2000000 in
theorem jQ {S:Nat→Prop} (a:Option Addr) (n c:Nat) (ls:List Nm) (w:World) (h:gU F w r T) (hT:dA T) (hE:(aU T).length≤1000000) (hS:aG S w a n (ls.map strOf)) (hc:n≤c) (jd:n≤1000000):
  Calls Tryz.prog 62 #[ptr r, .slice a n c] w fun e w'=>e= .returned (.tuple #[.int .i64 (aC T ls).1, .string (strOf (aC T ls).2.1), .int .i64 (aC T ls).2.2])∧Below w.heap.size w w':=by
 have hln:ls.length=n:=by have:=hS.length;simpa using this
 unfold aC
 by_cases h0:ls=[]
 ·rw[if_pos h0]
  have hn:n=0:=by rw[←hln,h0];rfl
  subst hn
  clear h hT hS hE
  go_enter Tryz.func62,Tryz.ntmps62
  go_wp2
  go_ret3
  exact⟨rfl,Below.refl _ _⟩
 ·rw[if_neg h0]
  obtain⟨j,rfl⟩:∃j,n=j+1:=⟨n-1,by
   have:n≠0:=fun e=>h0 (List.eq_nil_of_length_eq_zero (by omega))
   omega⟩
  obtain⟨b,off,nm,rfl,_,hbw,hx,hsz,hcn⟩:=vw hS j (by omega)
  have hdl:(ls.map strOf).take j=ls.dropLast.map strOf:=by
   rw[List.dropLast_eq_take,hln,List.map_take];rfl
  have hnm:ls.getLastD []=nm:=by
   rw[List.getLastD_eq_getLast?,List.getLast?_eq_getElem?,hln,show j+1-1=j from rfl,hx];rfl
  have hT1:=hS.take j (by omega)
  rw[hdl]at hT1
  have kK:=Lib.hid (pq _ j c ls.dropLast w h hT hE hT1)
  have HH:=Lib.hid (fun w1 (hb:Below w.heap.size w w1) id=>jO id w1 (h.below hb (Nat.le_refl _)) hT.totF)
  have OM:=Lib.hid (fA hT ls.dropLast 0 (dW hT))
  have e1:IntKind.i64.wrap (((j+1:Nat):Int)-1)=(j:Int):=by rw[show(((j+1:Nat):Int)-1)=(j:Int)by omega];exact IntWalk.i64_in _ (by omega)
  have e1':IntKind.i64.wrap ((j:Int)+1-1)=(j:Int):=by rw[show((j:Int)+1-1)=(j:Int)by omega];exact IntWalk.i64_in _ (by omega)
  have i0:(0:Int)≤j:=by omega
  have i1:(j:Int)<((j+1:Nat):Int):=by omega
  have R8:(j:Int)<(j:Int)+1:=by omega
  have i2:(((j+1:Nat):Int)==0)=false:=by simp;omega
  have i2':((j:Int)+1==0)=false:=by simp;omega
  have hjc:j≤c:=by omega
  rw[hnm]
  clear h hT hE hS hx hsz hdl hnm hT1 hln h0
  obtain⟨⟨d,e0⟩,hq⟩:∃q,q=aF T 0 ls.dropLast:=⟨_,rfl⟩
  rw[←hq]at kK OM
  rw[←hq]
  clear hq
  simp only at kK OM
  simp only
  by_cases he:e0=0
  ·subst he
   obtain⟨x,hx⟩:=Option.isSome_iff_exists.1 (OM.out rfl)
   have hnd:jy T d=iM d x:=by unfold jy;rw[hx]
   have hkd:=b_ hx
   have OO:=Lib.hid (fun w1 hb=>HH.out w1 hb d)
   rw[hnd]at OO
   unfold iM at OO
   rw[if_neg (by simp),hkd]
   clear hnd hkd HH hx OM
   by_cases hk2:x.kind=2
   ·rw[if_pos hk2]
    rw[hk2]at OO
    clear hk2
    go_enter Tryz.func62,Tryz.ntmps62
    go_wp2_with fail
    (with_reducible refine kK.out.mono ?_)
    rintro e w1 ⟨rfl,hb1⟩
    have HB1:=Lib.hid hb1
    clear hb1
    go_wp2_with fail
    (with_reducible refine(OO.out w1 HB1.out).mono ?_)
    rintro e w2 ⟨rfl,hb2⟩
    have HB2:=Lib.hid (HB1.out.trans (hb2.mono HB1.out.size))
    clear hb2
    have hs2:=HB2.out.size
    have hc2:w2.cell? ⟨b,off+j,none⟩=some (.string (strOf nm)):=by rw[HB2.out.cell (p:=⟨b,off+j,none⟩) hbw];exact hcn
    have YC:b<w2.heap.size:=by omega
    go_wp2_with fail
    go_quiet (fail)
    go_wp2_with fail
    go_ret3
    exact⟨rfl,HB2.out.trans ⟨rfl,rfl,rfl,by simp,fun x hx=>Below.heap_alloc _ _ _ (by omega)⟩⟩
   ·have e3:(x.kind==2)=false:=by simpa using hk2
    have e4:(x.kind !=2)=true:=by simpa using hk2
    rw[if_neg hk2]
    clear hk2
    go_enter Tryz.func62,Tryz.ntmps62
    go_wp2_with fail
    (with_reducible refine kK.out.mono ?_)
    rintro e w1 ⟨rfl,hb1⟩
    have HB1:=Lib.hid hb1
    clear hb1
    go_wp2_with fail
    (with_reducible refine(OO.out w1 HB1.out).mono ?_)
    rintro e w2 ⟨rfl,hb2⟩
    have HB2:=Lib.hid (HB1.out.trans (hb2.mono HB1.out.size))
    clear hb2
    go_wp2_with fail
    go_ret3
    exact⟨rfl,HB2.out.trans ((wall w2 _).mono HB2.out.size)⟩
  ·rw[if_pos he]
   have hne:(e0==0)=false:=by simpa using he
   have hne2:(e0 !=0)=true:=by simpa using he
   clear he HH OM
   go_enter Tryz.func62,Tryz.ntmps62
   go_wp2_with fail
   (with_reducible refine kK.out.mono ?_)
   rintro e w1 ⟨rfl,hb1⟩
   go_wp2_with fail
   go_ret3
   exact⟨rfl,hb1⟩
end
theorem dB {w:World} {base g:Nat} {e:TypeId} {k:Nat} (hg:w.heap[g]? =some (.cells #[] e)) (hb:base≤g):w.ownsRow base e k (.slice (some ⟨g,0,none⟩) 0 0) 0 []:=by
 refine⟨by simp, .inr ⟨g,0,#[],rfl,hb,hg,Nat.le_refl _,Nat.zero_le _,by simp,by simp⟩⟩
theorem ak.qM {w:World} {base:Nat} {e:TypeId} {k:Nat} {a:Option Addr} {m n c:Nat} {xs:List Value} (h:w.ownsRow base e k (.slice a m c) n xs) (hs:n*k≤maxLen):m=n∧n≤c∧Base a c∧ak (fun x=>base≤x∧x<w.heap.size) w a (n*k) xs:=by
 obtain⟨h1,h2⟩:=h
 rcases h2 with⟨h2,rfl⟩|⟨g,cap,cur,h2,hg,hcur,h3,h4,h5,h6⟩
 ·simp only[Value.slice.injEq]at h2
  obtain⟨rfl,rfl,rfl⟩:=h2
  have:xs=[]:=List.eq_nil_of_length_eq_zero (by omega)
  subst this
  rw[Nat.zero_mul]
  exact⟨rfl,Nat.le_refl _,Or.inl ⟨rfl,rfl⟩,ak.nil _ _ _⟩
 ·simp only[Value.slice.injEq]at h2
  obtain⟨rfl,rfl,rfl⟩:=h2
  have hgw:=(Array.getElem?_eq_some_iff.1 hcur).1
  refine⟨rfl,h3,Or.inr ⟨_,rfl⟩,h1,hs,fun h0=>⟨g,0,rfl,⟨hg,hgw⟩,hgw,fun i hi=> ?_⟩⟩
  simp only[World.cell?,hcur,Nat.zero_add]
  rw[←h6,List.getElem?_take,if_pos hi]
  simp
theorem kE {P:Program} {S:Nat→Prop} {w:World} (base:Nat) (t ty e:TypeId) (i:TypeInfo) (z:Value) (k bytes:Nat) (ht:P.underlying t=some (.slice e)) (hi:P.info? e=some i) (hz:i.zero=some z)
  (hsize:i.size=k) (hby:i.bytes=bytes) (hzs:z.cells.size=k) (hk:0<k) (v:Value) (n:Nat) (xs:List Value) (hown:w.ownsRow base e k v n xs)
  (A:Option Addr) (m c:Nat) (news:List Value) (hr:ak S w A (m*k) news) (h1:∀u∈news,u.oneCell'=true) (h63:n+m≤maxLen) (hbytes:(n+m)*bytes≤140737488355328) (hbase:base≤w.heap.size):
  ∃A' c' w',(Builtin.append_ #[t,t] ty #[v, .slice A m c]).run P w= .ok (.slice A' (n+m) c') w'∧w'.ownsRow base e k (.slice A' (n+m) c') (n+m) (xs++news)∧w.grownBy w' v.ownBlock∧
   ((Value.slice A' (n+m) c').ownBlock=v.ownBlock∨(Value.slice A' (n+m) c').ownBlock=some w.heap.size):=by
 rcases A with _|ad
 ·have hm:m=0:=by
   rcases Nat.eq_zero_or_pos m with h0|h0
   ·exact h0
   ·obtain⟨_,_,h,_⟩:=hr.at_ (Nat.mul_pos h0 hk)
    cases h
  subst hm
  have hn:news=[]:=List.eq_nil_of_length_eq_zero (by rw[hr.length];omega)
  subst hn
  obtain⟨A',c',rfl,_⟩:=eP hown
  refine⟨A',c',w,?_,by simpa using hown,⟨rfl,rfl,rfl,Nat.le_refl _,fun _ _ _=>rfl⟩,Or.inl rfl⟩
  rcases hown.2 with⟨h2,rfl⟩|⟨g,cap,cur,h2,_,_,hnc,_⟩
  ·simp only[Value.slice.injEq]at h2
   obtain⟨rfl,_,rfl⟩:=h2
   simp[Builtin.append_,run_underlying ht,sizeOf,typeInfo,hi,Builtin.lenOf,Builtin.firstCells]
  ·simp only[Value.slice.injEq]at h2
   obtain⟨rfl,_,rfl⟩:=h2
   simp[Builtin.append_,run_underlying ht,sizeOf,typeInfo,hi,Builtin.lenOf,Builtin.firstCells,hnc,storeCells]
 ·obtain⟨v',w',hr',h2,h3,h4,h5⟩:=run_append_own_at (P:=P) w base t ty e i z k bytes ht hi hz hsize hby hzs hk v n xs hown ad m c news hr.length hr.cells h1 h63 hbytes hbase
  obtain⟨A',c',rfl,_⟩:=eP h2
  exact⟨A',c',w',hr',h2,h3,h5⟩
theorem av {P:Program} {S:Nat→Prop} {ops:Array Oper} {o:Oper} {a:Act} {w:World} {K:Act→World→Prop} {Q:Exit→Act→World→Prop} {E:Prop} (hgd:o.guard=none) (s x:Operand) (t:TypeId)
  (ho:o.op= .call {callee:= .builtin .append,args:= #[s,x],argTypes:= #[t,t]})
  (base:Nat) (e:TypeId) (i:TypeInfo) (z:Value) (k bytes:Nat) (ht:P.underlying t=some (.slice e)) (hi:P.info? e=some i) (hz:i.zero=some z)
  (hsize:i.size=k) (hby:i.bytes=bytes) (hzs:z.cells.size=k) (hk:0<k) (v:Value) (n:Nat) (xs:List Value) (hs:a.eval s=v) (hown:w.ownsRow base e k v n xs)
  (A:Option Addr) (m c:Nat) (news:List Value) (hx:a.eval x= .slice A m c) (hr:ak S w A (m*k) news) (h1:∀u∈news,u.oneCell'=true) (h63:n+m≤maxLen) (hbytes:(n+m)*bytes≤140737488355328) (hbase:base≤w.heap.size)
  (h:∀A' c' w',w'.ownsRow base e k (.slice A' (n+m) c') (n+m) (xs++news)→Below base w w'→K (a.put o.dst (.slice A' (n+m) c')) w'):
  if Region.wanted o (yielded ops a.tmps)=true then Oper.wp P o a w K Q else E:=by
 have hw:Region.wanted o (yielded ops a.tmps)=true:=by simp[Region.wanted,hgd]
 rw[if_pos hw]
 obtain⟨A',c',w',hr,h2,h3,h4⟩:=kE (P:=P) base t o.type e i z k bytes ht hi hz hsize hby hzs hk v n xs hown A m c news hr h1 h63 hbytes hbase
 unfold Oper.wp execOp
 simp only[ho,resolve,invoke,builtin,Sem.run_bind,Sem.run_pure,Result.andThen_ok,List.map_toArray,List.map_cons,List.map_nil,hs,hx,hr]
 exact h A' c' w' h2 ⟨h3.os,h3.tape,h3.output,h3.size,fun b hb=>h3.block b (by omega) (fun e=>by have:=fO hown b e.symm;omega)⟩
theorem own_below {w w':World} {base:Nat} {e:TypeId} {k:Nat} {v:Value} {n:Nat} {xs:List Value} (h:w.ownsRow base e k v n xs) (hb:Below w.heap.size w w'):w'.ownsRow base e k v n xs:=by
 obtain⟨h1,h2⟩:=h
 refine⟨h1,?_⟩
 rcases h2 with h2|⟨g,cap,cur,h2,hg,hcur,h3⟩
 ·exact .inl h2
 ·exact .inr ⟨g,cap,cur,h2,hg,(hb.block g (Array.getElem?_eq_some_iff.1 hcur).1).trans hcur,h3⟩
end Go.Proofs.YtohpcppeajijnaaGreat
