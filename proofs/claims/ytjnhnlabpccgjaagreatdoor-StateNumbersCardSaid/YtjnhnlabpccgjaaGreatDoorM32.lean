/- Rows -/
import Derived.Test.YtjnhnlabpccgjaaGreatDoorM31
import Derived.Test.YtjnhnlabpccgjaaGreatDoorM13
import Derived.BigRegion
import Derived.Deep.RegionHeld3
set_option maxRecDepth 100000
set_option maxHeartbeats 64000000
set_option linter.all false
namespace Go.Proofs.YtjnhnlabpccgjaaGreatDoor
open Go.ChangeShapes Go.WideShapes Go.ChangeAt Go.RowKit
theorem gI{w:World}{base g:Nat}{e:TypeId}{k:Nat}(hg:w.heap[g]? =some (.cells #[] e))(hb:base≤g):w.ownsRow base e k (.slice (some ⟨g,0,none⟩) 0 0) 0 []:=by
 refine⟨by simp,.inr ⟨g,0,#[],rfl,hb,hg,Nat.le_refl _,Nat.zero_le _,by simp,by simp⟩⟩
theorem ah.oM{w:World}{base:Nat}{e:TypeId}{k:Nat}{a:Option Addr}{m n c:Nat}{xs:List Value}(h:w.ownsRow base e k (.slice a m c) n xs)(hs:n*k≤maxLen):m=n∧n≤c∧Base a c∧ah (fun x=>base≤x∧x<w.heap.size) w a (n*k) xs:=by
 obtain⟨h1,h2⟩:=h;rcases h2 with⟨h2,rfl⟩|⟨g,cap,cur,h2,hg,hcur,h3,h4,h5,h6⟩
 ·simp only[aar]at h2;obtain⟨rfl,rfl,rfl⟩:=h2;have:xs=[]:=aai (by omega);subst this;rw[abE];exact⟨rfl,Nat.le_refl _,Or.inl ⟨rfl,rfl⟩,ah.nil _ _ _⟩
 ·simp only[aar]at h2;obtain⟨rfl,rfl,rfl⟩:=h2;have hgw:=(iA.1 hcur).1;refine⟨rfl,h3,Or.inr ⟨_,rfl⟩,h1,hs,fun h0=>⟨g,0,rfl,⟨hg,hgw⟩,hgw,fun i hi=> ?_⟩⟩;simp only[World.cell?,hcur,Nat.zero_add];rw[←h6,aaC,if_pos hi];simp
theorem pU{P:Program}{S:Nat→Prop}{w:World}(base:Nat)(t ty e:TypeId)(i:TypeInfo)(z:Value)(k bytes:Nat)(ht:P.underlying t=some (.slice e))(hi:P.info? e=some i)(hz:i.zero=some z)
  (hsize:i.size=k)(hby:i.bytes=bytes)(hzs:z.cells.size=k)(hk:0<k)(v:Value)(n:Nat)(xs:List Value)(hown:w.ownsRow base e k v n xs)
  (A:Option Addr)(m c:Nat)(news:List Value)(hr:ah S w A (m*k) news)(h1:∀u∈news,u.oneCell'=true)(h63:n+m≤maxLen)(hbytes:(n+m)*bytes≤140737488355328)(hbase:base≤w.heap.size):
  ∃A' c' w',(Builtin.append_ #[t,t] ty #[v,.slice A m c]).run P w= .ok (.slice A' (n+m) c') w'∧w'.ownsRow base e k (.slice A' (n+m) c') (n+m) (xs++news)∧w.grownBy w' v.ownBlock∧
   ((Value.slice A' (n+m) c').ownBlock=v.ownBlock∨(Value.slice A' (n+m) c').ownBlock=some w.heap.size):=by
 rcases A with _|ad
 ·have hm:m=0:=by
   rcases abh m with h0|h0
   ·exact h0
   ·obtain⟨_,_,h,_⟩:=hr.at_ (Nat.mul_pos h0 hk);cases h
  subst hm;have hn:news=[]:=aai (by rw[hr.length];omega);subst hn;obtain⟨A',c',rfl,_⟩:=dI hown;refine⟨A',c',w,?_,by simpa using hown,⟨rfl,rfl,rfl,Nat.le_refl _,fun _ _ _=>rfl⟩,Or.inl rfl⟩;rcases hown.2 with⟨h2,rfl⟩|⟨g,cap,cur,h2,_,_,hnc,_⟩
  ·simp only[aar]at h2;obtain⟨rfl,_,rfl⟩:=h2;simp[Builtin.append_,abO ht,sizeOf,typeInfo,hi,Builtin.lenOf,Builtin.firstCells]
  ·simp only[aar]at h2;obtain⟨rfl,_,rfl⟩:=h2;simp[Builtin.append_,abO ht,sizeOf,typeInfo,hi,Builtin.lenOf,Builtin.firstCells,hnc,storeCells]
 ·obtain⟨v',w',hr',h2,h3,h4,h5⟩:=run_append_own_at (P:=P) w base t ty e i z k bytes ht hi hz hsize hby hzs hk v n xs hown ad m c news hr.length hr.cells h1 h63 hbytes hbase;obtain⟨A',c',rfl,_⟩:=dI h2;exact⟨A',c',w',hr',h2,h3,h5⟩
theorem aF{P:Program}{S:Nat→Prop}{ops:Array Oper}{o:Oper}{a:Act}{w:World}{K:Act→World→Prop}{Q:Exit→Act→World→Prop}{E:Prop}(hgd:o.guard=none)(s x:Operand)(t:TypeId)
  (ho:o.op= .call {callee:= .builtin .append,args:= #[s,x],argTypes:= #[t,t]})
  (base:Nat)(e:TypeId)(i:TypeInfo)(z:Value)(k bytes:Nat)(ht:P.underlying t=some (.slice e))(hi:P.info? e=some i)(hz:i.zero=some z)
  (hsize:i.size=k)(hby:i.bytes=bytes)(hzs:z.cells.size=k)(hk:0<k)(v:Value)(n:Nat)(xs:List Value)(hs:a.eval s=v)(hown:w.ownsRow base e k v n xs)
  (A:Option Addr)(m c:Nat)(news:List Value)(hx:a.eval x= .slice A m c)(hr:ah S w A (m*k) news)(h1:∀u∈news,u.oneCell'=true)(h63:n+m≤maxLen)(hbytes:(n+m)*bytes≤140737488355328)(hbase:base≤w.heap.size)
  (h:∀A' c' w',w'.ownsRow base e k (.slice A' (n+m) c') (n+m) (xs++news)→Below base w w'→K (a.put o.dst (.slice A' (n+m) c')) w'):
  if Region.wanted o (yielded ops a.tmps)=true then Oper.wp P o a w K Q else E:=by
 have hw:Region.wanted o (yielded ops a.tmps)=true:=by simp[Region.wanted,hgd]
 rw[if_pos hw];obtain⟨A',c',w',hr,h2,h3,h4⟩:=pU (P:=P) base t o.type e i z k bytes ht hi hz hsize hby hzs hk v n xs hown A m c news hr h1 h63 hbytes hbase;unfold Oper.wp execOp;simp only[ho,resolve,invoke,builtin,abA,abD,abl,abu,aaA,abb,hs,hx,hr];exact h A' c' w' h2 ⟨h3.os,h3.tape,h3.output,h3.size,fun b hb=>h3.block b (by omega) (fun e=>by have:=bA hown b e.symm;omega)⟩
theorem own_below{w w':World}{base:Nat}{e:TypeId}{k:Nat}{v:Value}{n:Nat}{xs:List Value}(h:w.ownsRow base e k v n xs)(hb:Below w.heap.size w w'):w'.ownsRow base e k v n xs:=by
 obtain⟨h1,h2⟩:=h;refine⟨h1,?_⟩;rcases h2 with h2|⟨g,cap,cur,h2,hg,hcur,h3⟩
 ·exact .inl h2
 ·exact .inr ⟨g,cap,cur,h2,hg,(hb.block g (iA.1 hcur).1).trans hcur,h3⟩
theorem qR{α β:Type}(f:α→List β)(k:Nat)(hk:∀x,(f x).length=k):∀(L:List α) (i:Nat),(L.flatMap f).take (i*k)=(L.take i).flatMap f
 |[],i=>by simp
 |y::r,0=>by simp
 |y::r,i+1=>by
  rw[List.flatMap_cons,abo,List.flatMap_cons,Nat.add_mul,Nat.one_mul,Nat.add_comm,←hk y,List.take_length_add_append,hk y,qR f k hk r i]
theorem qU{α β:Type}(f:α→List β)(k:Nat)(hk:∀x,(f x).length=k):∀(L:List α) (i:Nat),(L.flatMap f).drop (i*k)=(L.drop i).flatMap f
 |[],i=>by simp
 |y::r,0=>by simp
 |y::r,i+1=>by
  rw[List.flatMap_cons,List.drop_succ_cons,Nat.add_mul,Nat.one_mul,Nat.add_comm,←hk y,List.drop_length_add_append,hk y,qU f k hk r i]
theorem AJ{α β:Type}(f:α→List β)(k:Nat)(hk:∀x,(f x).length=k){j:Nat}{x x':α}{v:β}(hj:j<k)(hv:f x'=(f x).set j v):∀(L:List α) (i:Nat),L[i]? =some x→(L.flatMap f).set (i*k+j) v=(L.set i x').flatMap f
 |[],i,h=>by simp at h
 |y::r,0,h=>by
  simp only[aao,aac]at h;subst h;rw[List.flatMap_cons,abE,Nat.zero_add,List.set_append_left _ _ (by rw[hk];exact hj),aaN,List.flatMap_cons,hv]
 |y::r,i+1,h=>by
  rw[List.flatMap_cons,List.set_append_right _ _ (by rw[hk,Nat.add_mul];omega),hk,show(i+1)*k+j-k=i*k+j by rw[Nat.add_mul];omega,AJ f k hk hj hv r i (by simpa using h)];rfl
theorem nO(E:List kJ):∀u∈E.flatMap fZ,u.oneCell'=true:=by
 intro u hu;obtain⟨e,_,he⟩:=abU.1 hu;simp only[fZ,aay,aaW,abT]at he;rcases he with rfl|rfl|rfl<;>rfl
theorem iV(T:aL):∀u∈T.flatMap dV,u.oneCell'=true:=by
 intro u hu;obtain⟨e,_,he⟩:=abU.1 hu;simp only[dV,aay,aaW,abT]at he;rcases he with rfl|rfl|rfl|rfl|rfl|rfl<;>rfl
theorem Co:(Tryz.prog.info? 146).map (fun i=>(i.zero,i.size,i.bytes))=some (some (.agg #[.int .i64 0,.string ⟨#[]⟩,.int .i64 0]),3,32):=by kernel_rfl
theorem nodeInfo:(Tryz.prog.info? 39).map (fun i=>(i.zero,i.size,i.bytes))=some (some (.agg #[.int .i64 0,.int .i64 0,.int .i64 0,.int .i64 0,.int .u64 0,.bool false]),6,48):=by kernel_rfl
theorem zA:(Tryz.prog.info? 28).map (fun i=>(i.zero,i.size,i.bytes))=some (some (.slice none 0 0),1,24):=by kernel_rfl
theorem ah.f_{S:Nat→Prop}{w:World}{b off len:Nat}{vs:List Value}(h:ah S w (some ⟨b,off,none⟩) len vs){j:Nat}(hj:j<len)(v:Value):ah S (w.setCell ⟨b,off+j,none⟩ v) (some ⟨b,off,none⟩) len (vs.set j v):=by
 obtain⟨b',off',e,hS,hb,hc⟩:=h.at_ (by omega);simp only[aac,aaS,aaI]at e;obtain⟨rfl,rfl⟩:=e;have hl:=h.length;refine⟨by simpa using hl,h.small,fun _=>⟨b,off,rfl,hS,by rw[size_set];exact hb,fun i hi=> ?_⟩⟩;by_cases hij:i=j
 ·subst hij;have h1:=hc i hi;rw[List.getElem?_eq_getElem (by omega)]at h1;rw[World.cell?_setCell_same _ _ _ h1,aa1 (by omega)]
 ·rw[World.cell?_setCell_other _ _ _ _ (fun e=>by
   simp only[aaS,aaI,abG]at e;omega),hc i hi,List.getElem?_set_ne (abw hij)]
theorem ah.apart{S:Nat→Prop}{w:World}{a:Option Addr}{len:Nat}{vs:List Value}(h:ah S w a len vs)(q:Addr)(v:Value)(hq:∀b,S b→b≠q.block):ah S (w.setCell q v) a len vs:=
 h.kept (by rw[size_set];exact Nat.le_refl _) fun b hb _=>aV _ _ _ _ (hq b hb)
theorem ah.frozen{w:World}{q:Addr}{cs:Array Value}{t:TypeId}(h:w.heap[q.block]? =some (.cells cs t (0,0)))(hq:q.spot=none):w.frozen? q=false:=by
 obtain⟨b,o,s⟩:=q;simp only at hq h;subst hq;simp[World.frozen?,h]
def New(w w':World):Nat→Prop:=fun x=>w.heap.size≤x∧x<w'.heap.size
def Grow(F:Nat→Prop)(w w':World):Nat→Prop:=fun x=>F x∨(w.heap.size≤x∧x<w'.heap.size)
def eB(F:Nat→Prop)(w:World)(r:Nat)(T:aL)(D:List (List UInt8))(E:List kJ)(v:Value)(e:Ending)(w':World):Prop:=
 e= .returned v∧Keeps (fun x=>x=r) w w'∧iP (Grow F w w') w' r T D E
abbrev bO(F:Nat→Prop)(w:World)(r:Nat)(T:aL)(v:Value)(e:Ending)(w':World):Prop:=eB F w r T (T.map fun q=>q.2.b) (aX T) v e w'
section
variable{F:Nat→Prop}{r:Nat}{T T':aL}{D D':List (List UInt8)}{E E':List kJ}{w w' w2:World}
theorem iP.mono{F':Nat→Prop}(h:iP F w r T D E)(hs:∀b,F b→F' b)(hl:∀b,F' b→b<w.heap.size):iP F' w r T D E:=by
 obtain⟨aN,cN,aD,cD,aE,cE,h1,h2,h3,h4,h8,h9,h10,h11⟩:=h.head;have hk:∀b,Off F r b→b<w.heap.size→Off F' r b∧w.heap[b]? =w.heap[b]? :=fun b hb _=>⟨⟨hs b hb.1,hb.2⟩,rfl⟩;exact⟨⟨aN,cN,aD,cD,aE,cE,h1,h2,h3,h4,h8.move acC hk,h9.move acC hk,h10.move acC hk,h11⟩,hs _ h.own,hl⟩
theorem iP.grow(h:iP F w r T D E)(hb:Below w.heap.size w w'):iP (Grow F w w') w' r T D E:=
 (h.below hb acC).mono (fun b hb=> .inl hb) fun b hx=>by
  rcases hx with hx|hx
  ·have:=h.low b hx;have:=hb.size;omega
  ·exact hx.2
theorem eB.same{v:Value}(h:iP F w r T D E)(hb:Below w.heap.size w w'):eB F w r T D E v (.returned v) w':=
 ⟨rfl,Keeps.mono (Keeps.below hb) (fun x hx hf=>by omega),h.grow hb⟩
theorem eB.trans{T2:aL}{D2:List (List UInt8)}{E2:List kJ}{v v2:Value}{e e2:Ending}(hw:∀b,F b→b<w.heap.size)(h:eB F w r T' D' E' v e w')(k:eB (Grow F w w') w' r T2 D2 E2 v2 e2 w2):eB F w r T2 D2 E2 v2 e2 w2:=by
 refine⟨k.1,h.2.1.trans k.2.1 (fun x _ hx=>hx),k.2.2.mono (fun b hb=> ?_) fun b hx=> ?_⟩
 ·rcases hb with(hb|hb)|hb
  ·exact .inl hb
  ·exact .inr ⟨hb.1,Pd hb.2 k.2.1.size⟩
  ·exact .inr ⟨Nat.le_trans h.2.1.size hb.1,hb.2⟩
 ·rcases hx with hx|hx
  ·have:=hw b hx;have:=h.2.1.size;have:=k.2.1.size;omega
  ·exact hx.2
theorem eB.behind{v:Value}{e:Ending}(hw:∀b,F b→b<w.heap.size)(hb:Below w.heap.size w w')(k:eB F w' r T D E v e w2):eB F w r T D E v e w2:=by
 refine⟨k.1,(Keeps.mono (Keeps.below hb) (fun x hx hf=>by omega)).trans k.2.1 (fun x _ hx=>hx),k.2.2.mono (fun b hx=> ?_) fun b hx=> ?_⟩
 ·rcases hx with hx|hx
  ·exact .inl hx
  ·exact .inr ⟨Nat.le_trans hb.size hx.1,hx.2⟩
 ·rcases hx with hx|hx
  ·have:=hw b hx;have:=hb.size;have:=k.2.1.size;omega
  ·exact hx.2
theorem eB.then_{v:Value}{e:Ending}(k:eB F w r T D E v e w')(hw:∀b,F b→b<w.heap.size)(hb:Below w'.heap.size w' w2):eB F w r T D E v e w2:=by
 have h1:=k.2.2.below hb acC;refine⟨k.1,k.2.1.trans (fp':=fun x=>w'.heap.size≤x) (Keeps.below hb) (fun x hx hf=>by have:=k.2.1.size;omega),h1.mono (fun b hx=> ?_) fun b hx=> ?_⟩
 ·rcases hx with hx|hx
  ·exact .inl hx
  ·exact .inr ⟨hx.1,Pd hx.2 hb.size⟩
 ·rcases hx with hx|hx
  ·have:=hw b hx;have:=hb.size;have:=k.2.1.size;omega
  ·exact hx.2
theorem uq{a:Option Addr}{n:Nat}{vs:List Value}(hK:Keeps (fun x=>x=r) w w')(h:ah (Off F r) w a n vs):ah (Off (Grow F w w') r) w' a n vs:=
 h.move hK.size fun b hb hbw=>⟨⟨.inl hb.1,hb.2⟩,hK.block b hbw hb.2⟩
theorem Cq{a:Option Addr}{n:Nat}{vs:List Value}(hr:r<w.heap.size)(h:ah (New w w') w' a n vs):ah (Off (Grow F w w') r) w' a n vs:=
 h.mono fun b hb=>⟨.inr hb,fun e=>by have:=hb.1;omega⟩
theorem Ux(hw:∀b,F b→b<w.heap.size)(hs:w.heap.size≤w'.heap.size):∀b,Grow F w w' b→b<w'.heap.size:=fun b hx=>by
 rcases hx with hx|hx
 ·have:=hw b hx;omega
 ·exact hx.2
theorem iP.turn(h:iP F w r T D E)(hK:Keeps (fun x=>x=r) w w'){aN aD aE:Option Addr}{cN cD cE:Nat}(hh:w'.heap[r]? =some (.cells #[.slice aN T'.length cN,.slice aD D'.length cD,.slice aE E'.length cE] 113 (0,0)))
  (h1:T'.length≤cN)(h2:D'.length≤cD)(h3:E'.length≤cE)(hN:ah (Off (Grow F w w') r) w' aN (T'.length*6) (T'.flatMap dV))(hD:BytesAt (Off (Grow F w w') r) w' aD D')(hE:ah (Off (Grow F w w') r) w' aE (E'.length*3) (E'.flatMap fZ))(hB:Base aE cE):iP (Grow F w w') w' r T' D' E':=
 ⟨⟨aN,cN,aD,cD,aE,cE,hh,h1,h2,h3,hN,hD,hE,hB⟩,.inl h.own,Ux h.low hK.size⟩
theorem iP.names(h:iP F w r T D E)(hl:T'.length=T.length)(hn:T'.flatMap dV=T.flatMap dV):iP F w r T' D E:=by
 obtain⟨aN,cN,aD,cD,aE,cE,h1,h2,h3,h4,h8,h9,h10,h11⟩:=h.head;exact⟨⟨aN,cN,aD,cD,aE,cE,by rw[hl];exact h1,by rw[hl];exact h2,h3,h4,by rw[hl,hn];exact h8,h9,h10,h11⟩,h.own,h.low⟩
end
def Plain(w:World)(a:Option Addr):Prop:=∀g off,a=some ⟨g,off,none⟩→∃cs t,w.heap[g]? =some (.cells cs t (0,0))
theorem Plain.kept{w w':World}{a:Option Addr}(h:Plain w a)(hk:∀g off,a=some ⟨g,off,none⟩→w'.heap[g]? =w.heap[g]?):Plain w' a:=fun g off e=>by
 obtain⟨cs,t,h1⟩:=h g off e;exact⟨cs,t,(hk g off e).trans h1⟩
theorem Plain.f_{w:World}{a:Option Addr}(h:Plain w a)(q:Addr)(v:Value)(hq:q.spot=none):Plain (w.setCell q v) a:=fun g off e=>by
 obtain⟨cs,t,h1⟩:=h g off e;obtain⟨b,o,sp⟩:=q;simp only at hq;subst hq;by_cases hb:g=b
 ·subst hb;exact⟨_,_,aI h1⟩
 ·exact⟨cs,t,(aV _ _ _ _ hb).trans h1⟩
theorem Plain.frozen{w:World}{g off:Nat}(h:Plain w (some ⟨g,off,none⟩))(j:Nat):w.frozen? ⟨g,j,none⟩=false:=by
 obtain⟨cs,t,h1⟩:=h g off rfl;simp[World.frozen?,h1]
theorem nA{w:World}{base:Nat}{e:TypeId}{k:Nat}{a:Option Addr}{m n c:Nat}{xs:List Value}(h:w.ownsRow base e k (.slice a m c) n xs):Plain w a:=fun g off he=>by
 subst he;obtain⟨_,h2⟩:=h;rcases h2 with⟨h2,_⟩|⟨g',cap,cur,h2,hg,hcur,_⟩
 ·cases h2
 ·simp only[aar,aac,aaS,aaI]at h2;obtain⟨⟨rfl,_⟩,_⟩:=h2;exact⟨_,_,hcur⟩
def cu(w:World)(r:Nat)(x1 x2:Value)(T:aL)(wx:World):Prop:=
 Keeps (fun x=>x=r) w wx∧r<w.heap.size∧∃a c,wx.heap[r]? =some (.cells #[.slice a T.length c,x1,x2] 113 (0,0))∧T.length≤c∧ah (New w wx) wx a (T.length*6) (T.flatMap dV)∧Plain wx a
theorem qw{w w1 w2:World}{e:TypeId}{k:Nat}{a:Option Addr}{m n c:Nat}{xs:List Value}(h:w2.ownsRow w1.heap.size e k (.slice a m c) n xs)(hs:n*k≤maxLen)(hw:w.heap.size≤w1.heap.size):m=n∧n≤c∧Base a c∧ah (New w w2) w2 a (n*k) xs:=by
 obtain⟨h1,h2,h3,h4⟩:=ah.oM h hs;exact⟨h1,h2,h3,h4.mono fun b hb=>⟨by omega,hb.2⟩⟩
theorem DV{w w1:World}{r j:Nat}{v:Value}{a:Option Addr}{n:Nat}{vs:List Value}(hr:r<w.heap.size)(h:ah (New w w1) w1 a n vs):ah (New w (w1.setCell ⟨r,j,none⟩ v)) (w1.setCell ⟨r,j,none⟩ v) a n vs:=
 (h.apart ⟨r,j,none⟩ v fun b hb=>by
  show b≠r;have:=hb.1;omega).mono fun b hb=>⟨hb.1,by rw[size_set];exact hb.2⟩
theorem cu.mk_{w w1:World}{r:Nat}{x0 x1 x2:Value}{T:aL}{a:Option Addr}{c:Nat}(hr:r<w.heap.size)(h1:w.heap[r]? =some (.cells #[x0,x1,x2] 113 (0,0)))(hb:Below w.heap.size w w1)(hc:T.length≤c)(hrow:ah (New w w1) w1 a (T.length*6) (T.flatMap dV))(hp:Plain w1 a):cu w r x1 x2 T (w1.setCell ⟨r,0,none⟩ (.slice a T.length c)):=by
 refine⟨(Keeps.mono (Keeps.below hb) (fun x hx hf=>by omega)).trans (Keeps.f_ _ _ _) fun x _ hx=>hx,hr,a,c,?_,hc,DV hr hrow,hp.f_ _ _ rfl⟩;rw[aI ((hb.block r hr).trans h1)];rfl
theorem cu.f_{w wx:World}{r:Nat}{x1 x2:Value}{T:aL}(h:cu w r x1 x2 T wx){g off c:Nat}(hc:wx.cell? ⟨r,0,none⟩=some (.slice (some ⟨g,off,none⟩) T.length c)){k j:Nat}{q q':Int×bP}{v:Value}(hq:T[k]? =some q)(hj:j<6)(hv:dV q'=(dV q).set j v):cu w r x1 x2 (T.set k q') (wx.setCell ⟨g,off+(k*6+j),none⟩ v):=by
 obtain⟨hK,hr,a,c',h1,h2,h3,hp⟩:=h;have hc':wx.cell? ⟨r,0,none⟩=some (.slice a T.length c'):=by simp[World.cell?,h1]
 rw[hc']at hc;simp only[aac,aar,abG]at hc;obtain⟨rfl,rfl⟩:=hc;have hk:k<T.length:=(aae.1 hq).1;obtain⟨b,o,e,hF,hb,-,-⟩:=h3.wide ig rfl hq (by omega);simp only[aac,aaS,aaI]at e;obtain⟨rfl,rfl⟩:=e;have hgr:g≠r:=fun e=>by have:=hF.1;omega
 refine⟨hK.trans (fp':=fun x=>x=g) (Keeps.f_ wx ⟨g,off+(k*6+j),none⟩ v) (fun x hx hf=>by have:=hF.1;omega),hr,some ⟨g,off,none⟩,c',?_,by rw[aa0];exact h2,?_,?_⟩
 ·rw[aV _ _ _ _ (abw hgr),aa0];exact h1
 ·have h4:=h3.f_ (j:=k*6+j) (by omega) v;rw[AJ dV 6 ig hj hv T k hq]at h4;rw[aa0];exact h4.mono fun b hb=>⟨hb.1,by rw[size_set];exact hb.2⟩
 ·exact hp.f_ _ _ rfl
theorem iP.uw{F:Nat→Prop}{w wx:World}{r:Nat}{T T':aL}{D:List (List UInt8)}{E:List kJ}{x0 x1 x2:Value}(h:iP F w r T D E)(h1:w.heap[r]? =some (.cells #[x0,x1,x2] 113 (0,0)))(hm:cu w r x1 x2 T' wx)(v:Value):eB F w r T' D E v (.returned v) wx:=by
 obtain⟨hK,hr,a,c,h2,h3,h4,-⟩:=hm;obtain⟨aN,cN,aD,cD,aE,cE,g1,-,g3,g4,-,g9,g10,g11⟩:=h.head;rw[h1]at g1;simp only[aac,Obj.cells.injEq,Array.mk.injEq,aa6,aaI,abG]at g1;obtain⟨-,rfl,rfl⟩:=g1;refine⟨rfl,hK,h.turn hK h2 h3 g3 g4 (Cq hr h4) ?_ (uq hK g10) g11⟩;exact g9.move hK.size fun b hb2 hbw=>⟨⟨.inl hb2.1,hb2.2⟩,hK.block b hbw hb2.2⟩
def Each(F:Nat→Prop)(w:World)(vs:List Value)(bs:List (List UInt8)):Prop:=∀(i:Nat) (b:List UInt8),bs[i]? =some b→∃(a:Option Addr) (c:Nat),vs[i]? =some (.slice a b.length c)∧xq b.length c∧ah F w a b.length (b.map bv)
theorem Each.cut{F:Nat→Prop}{w:World}{vs:List Value}{bs:List (List UInt8)}(h:Each F w vs bs)(hl:vs.length=bs.length)(k:Nat)(hk:k<bs.length):Each F w (vs.take k++vs.drop (k+1)) (bs.take k++bs.drop (k+1)):=by
 intro i b hb;by_cases hi:i<k
 ·rw[aaG (by rw[aan];omega),aaC,if_pos hi]at hb⊢;exact h i b hb
 ·rw[aaz (by rw[aan];omega),aan,abx]at hb⊢;rw[hl];exact h _ b hb
theorem Each.one{F:Nat→Prop}{w:World}{vs:List Value}{bs:List (List UInt8)}(h:Each F w vs bs)(hl:vs.length=bs.length):∀u∈vs,u.oneCell'=true:=by
 intro u hu;obtain⟨i,hi,rfl⟩:=List.mem_iff_getElem.1 hu;obtain⟨a,c,h1,-⟩:=h i bs[i] (List.getElem?_eq_getElem (by omega));rw[List.getElem?_eq_getElem hi]at h1;simp only[aac]at h1;rw[h1];rfl
theorem Each.move{F F':Nat→Prop}{w w':World}{vs:List Value}{bs:List (List UInt8)}(h:Each F w vs bs)(hs:w.heap.size≤w'.heap.size)(hk:∀b,F b→b<w.heap.size→F' b∧w'.heap[b]? =w.heap[b]?):Each F' w' vs bs:=by
 intro i b hb;obtain⟨a,c,h3,h4,h5⟩:=h i b hb;exact⟨a,c,h3,h4,h5.move hs hk⟩
theorem iP.F3{F:Nat→Prop}{w w1 w2:World}{r:Nat}{T T':aL}{D D':List (List UInt8)}{E:List kJ}{x0 x1 x2:Value}(h:iP F w r T D E)(h1:w.heap[r]? =some (.cells #[x0,x1,x2] 113 (0,0)))(hm:cu w r x1 x2 T' w1)(hb:Below w1.heap.size w1 w2){a:Option Addr}{c:Nat}{vs:List Value}(hc:D'.length≤c)(hrow:ah (New w w2) w2 a D'.length vs)(he:Each (Off (Grow F w w2) r) w2 vs D')(v:Value):eB F w r T' D' E v (.returned v) (w2.setCell ⟨r,1,none⟩ (.slice a D'.length c)):=by
 obtain⟨hK,hr,aM,cM,h2,h3,h4,-⟩:=hm;obtain⟨aN,cN,aD,cD,aE,cE,g1,-,g3,g4,-,g9,g10,g11⟩:=h.head;rw[h1]at g1;simp only[aac,Obj.cells.injEq,Array.mk.injEq,aa6,aaI,abG]at g1;obtain⟨-,rfl,rfl⟩:=g1;have hs1:=hK.size;have hs2:=hb.size;have hK2:Keeps (fun x=>x=r) w w2:=hK.trans (Keeps.below hb) (fun x hx hf=>by omega);have hK3:Keeps (fun x=>x=r) w (w2.setCell ⟨r,1,none⟩ (.slice a D'.length c)):=hK2.trans (Keeps.f_ _ _ _) fun x _ hx=>hx;have hN2:ah (New w w2) w2 aM (T'.length*6) (T'.flatMap dV):=(h4.below hb acC).mono fun b hb=>⟨hb.1,Pd hb.2 hs2⟩;refine⟨rfl,hK3,h.turn hK3 ?_ h3 hc g4 (Cq hr (DV hr hN2)) ⟨vs,Cq hr (DV hr hrow),?_⟩ (uq hK3 g10) g11⟩
 ·rw[aI ((hb.block r (by omega)).trans h2)];rfl
 ·exact he.move (by rw[size_set];exact Nat.le_refl _) fun b hb2 _=>⟨⟨hb2.1.imp id fun h=>⟨h.1,by rw[size_set];exact h.2⟩,hb2.2⟩,aV _ _ _ _ hb2.2⟩
theorem fE{P:Program}{S:Nat→Prop}{ops:Array Oper}{o:Oper}{a:Act}{w:World}{K:Act→World→Prop}{Q:Exit→Act→World→Prop}{E:Prop}(hgd:o.guard=none)(s x:Operand)(t:TypeId)
  (ho:o.op= .call {callee:= .builtin .append,args:= #[s,x],argTypes:= #[t,t]})
  (base:Nat)(e:TypeId)(i:TypeInfo)(z:Value)(k bytes:Nat)(ht:P.underlying t=some (.slice e))(hi:P.info? e=some i)(hz:i.zero=some z)
  (hsize:i.size=k)(hby:i.bytes=bytes)(hzs:z.cells.size=k)(hk:0<k)(v:Value)(n:Nat)(xs:List Value)(hs:a.eval s=v)(hown:w.ownsRow base e k v n xs)
  (A:Option Addr)(m c:Nat)(news:List Value)(hx:a.eval x= .slice A m c)(hr:ah S w A (m*k) news)(h1:∀u∈news,u.oneCell'=true)(h63:n+m≤maxLen)(hbytes:(n+m)*bytes≤140737488355328)(hbase:base≤w.heap.size)
  (h:∀A' c' w',w'.ownsRow base e k (.slice A' (n+m) c') (n+m) (xs++news)→Below base w w'→w.grownBy w' v.ownBlock→K (a.put o.dst (.slice A' (n+m) c')) w'):
  if Region.wanted o (yielded ops a.tmps)=true then Oper.wp P o a w K Q else E:=by
 have hw:Region.wanted o (yielded ops a.tmps)=true:=by simp[Region.wanted,hgd]
 rw[if_pos hw];obtain⟨A',c',w',hr,h2,h3,h4⟩:=pU (P:=P) base t o.type e i z k bytes ht hi hz hsize hby hzs hk v n xs hown A m c news hr h1 h63 hbytes hbase;unfold Oper.wp execOp;simp only[ho,resolve,invoke,builtin,abA,abD,abl,abu,aaA,abb,hs,hx,hr];exact h A' c' w' h2 ⟨h3.os,h3.tape,h3.output,h3.size,fun b hb=>h3.block b (by omega) (fun e=>by have:=bA hown b e.symm;omega)⟩ h3
theorem ah.grown{S:Nat→Prop}{w w':World}{ob:Option Nat}{a:Option Addr}{n:Nat}{vs:List Value}(h:ah S w a n vs)(hg:w.grownBy w' ob)(hn:∀b,S b→b<w.heap.size→ob≠some b):ah S w' a n vs:=
 h.kept hg.size fun b hb hbw=>hg.block b hbw (fun e=>hn b hb hbw e.symm)
theorem iq{P:Program}{S:Nat→Prop}{w:World}{ops:Array Oper}{rest:List Oper}{o:Oper}{a:Act}{Q:Exit→Act→World→Prop}(hgd:o.guard=none)(s x:Operand)(t:TypeId)
  (ho:o.op= .call {callee:= .builtin .append,args:= #[s,x],argTypes:= #[t,t]})
  (base:Nat)(e:TypeId)(i:TypeInfo)(z:Value)(k bytes:Nat)(ht:P.underlying t=some (.slice e))(hi:P.info? e=some i)(hz:i.zero=some z)
  (hsize:i.size=k)(hby:i.bytes=bytes)(hzs:z.cells.size=k)(hk:0<k)(v:Value)(n:Nat)(xs:List Value)(hs:a.eval s=v)(hown:w.ownsRow base e k v n xs)
  (A:Option Addr)(m c:Nat)(news:List Value)(hx:a.eval x= .slice A m c)(hr:ah S w A (m*k) news)(h1:∀u∈news,u.oneCell'=true)(h63:n+m≤maxLen)(hbytes:(n+m)*bytes≤140737488355328)(hbase:base≤w.heap.size)
  (h:∀A' c' w',w'.ownsRow base e k (.slice A' (n+m) c') (n+m) (xs++news)→Below base w w'→wpList P ops Q rest (a.put o.dst (.slice A' (n+m) c')) w'):
  wpList P ops Q (o::rest) a w:=by
 refine abR hgd fun K hK=> ?_;obtain⟨A',c',w',hr,h2,h3,h4⟩:=pU (P:=P) base t o.type e i z k bytes ht hi hz hsize hby hzs hk v n xs hown A m c news hr h1 h63 hbytes hbase;unfold Oper.wp execOp;simp only[ho,resolve,invoke,builtin,abA,abD,abl,abu,aaA,abb,hs,hx,hr];exact hK _ _ (h A' c' w' h2 ⟨h3.os,h3.tape,h3.output,h3.size,fun b hb=>h3.block b (by omega) (fun e=>by have:=bA hown b e.symm;omega)⟩)
def DW(w:World)(r:Nat)(E:List kJ)(e:Ending)(w':World):Prop:=
 e= .returned (.tuple #[])∧∃a c w1,Below w.heap.size w w1∧w'=w1.setCell ⟨r,2,none⟩ (.slice a E.length c)∧E.length≤c∧Base a c∧ah (fun x=>w.heap.size≤x∧x<w1.heap.size) w1 a (E.length*3) (E.flatMap fZ)
theorem DX{F:Nat→Prop}{w w':World}{r:Nat}{T:aL}{D:List (List UInt8)}{E E':List kJ}{e:Ending}(h:iP F w r T D E)(hs:DW w r E' e w'):eB F w r T D E' (.tuple #[]) e w':=by
 obtain⟨rfl,a,c,w1,hb,rfl,hc,hz,hrow⟩:=hs;obtain⟨aN,cN,aD,cD,aE,cE,h1,h2,h3,h4,h8,h9,h10,h11⟩:=h.head;have hr:=h.low r h.own;have hK:Keeps (fun x=>x=r) w (w1.setCell ⟨r,2,none⟩ (.slice a E'.length c)):=(Keeps.mono (Keeps.below hb) (fun x hx hf=>by omega)).trans (Keeps.f_ _ _ _) fun x _ hx=>hx;refine⟨rfl,hK,h.turn (aD:=aD) hK ?_ h2 h3 hc (uq hK h8) ?_ (Cq hr ?_) hz⟩
 ·rw[aI ((hb.block r hr).trans h1)];rfl
 ·exact h9.move hK.size fun b hb2 hbw=>⟨⟨.inl hb2.1,hb2.2⟩,hK.block b hbw hb2.2⟩
 ·refine(hrow.apart ⟨r,2,none⟩ _ fun b hb2=> ?_).mono fun b hb2=>⟨hb2.1,by rw[size_set];exact hb2.2⟩;show b≠r;have:=hb2.1;omega
section
variable{F:Nat→Prop}{r:Nat}{T:aL}{D:List (List UInt8)}{E:List kJ}
theorem Uy(k:Nat)(w:World)(E:List kJ)(b off n cE:Nat)(hc2:w.cell? ⟨r,2,none⟩=some (.slice (some ⟨b,off,none⟩) n cE))(hrw:r<w.heap.size)(hfr:w.frozen? ⟨r,2,none⟩=false)(hn:E.length=n)(hcap:n≤cE)(XO:n≤1000000)(hrow:ah F w (some ⟨b,off,none⟩) (n*3) (E.flatMap fZ))(hk:k<n):
  Calls Tryz.prog 115 #[ptr r,.int .i64 k] w (DW w r (E.take k++E.drop (k+1))):=by
 obtain⟨i,hi,hz,h3,h32⟩:=aap Co;have HI:=acA (And.intro hi (And.intro hz (And.intro h3 h32)));have qV:acB (∀w1,Below w.heap.size w w1→ah F w1 (some ⟨b,off,none⟩) (k*3) ((E.take k).flatMap fZ)∧ah F w1 (if cE=k+1 then some ⟨b,off,none⟩else some ⟨b,off+(k+1)*3,none⟩) ((n-(k+1))*3) ((E.drop (k+1)).flatMap fZ)):=fun w1 hb=>by
  have h1:=hrow.below hb acC;have h2:=h1.take (k*3);rw[qR fZ 3 kg,abv (by omega)]at h2;have h4:=h1.drop ((k+1)*3);rw[qU fZ 3 kg,←Nat.sub_mul]at h4;refine⟨h2,?_⟩;by_cases hce:cE=k+1
  ·rw[if_pos hce];exact ah.zero _ _ _ (by rw[show n-(k+1)=0 by omega,abE]) (by rw[aaD (by omega)];rfl)
  ·rw[if_neg hce];exact h4
 have i0:(0:Int)≤k:=by omega
 have i1:(k:Int)≤cE:=by omega
 have i2:(k:Int)+1≤n:=by omega
 have i3:(0:Int)≤(k:Int)+1:=by omega
 have i4:(n:Int)≤cE:=by omega
 have e1:IntKind.i64.wrap ((k:Int)+1)=(k:Int)+1:=aak _ (by omega);have hlt:(E.take k++E.drop (k+1)).length=k+(n-(k+1)):=by simp;omega
 have Ah:=acA hlt;have ji:acB (∀w1,Below w.heap.size w w1→w1.cell? ⟨r,2,none⟩=some (.slice (some ⟨b,off,none⟩) n cE)∧w1.frozen? ⟨r,2,none⟩=false):=fun w1 hb=>⟨by rw[hb.cell (p:=⟨r,2,none⟩) hrw];exact hc2,by rw[hb.frozen (p:=⟨r,2,none⟩) hrw];exact hfr⟩;clear hi hz h3 h32 hrow hlt;go_enter Tryz.func115,Tryz.ntmps115;go_wp2;refine qA 19 ((fun w'=>w'.cell? ⟨r,2,none⟩=some (.slice (some ⟨b,off,none⟩) n cE)∧w'.frozen? ⟨r,2,none⟩=false)) ?_ fun hS=> ?_
 ·exact ji.o _ acD.drew
 refine au 0 hS ?_;refine au 2 hS ?_;refine au 3 hS ?_;refine au 4 hS ?_;refine au 5 hS ?_;refine au 6 hS ?_;refine au 7 hS ?_;refine au 9 hS ?_;refine au 10 hS ?_;refine au 11 hS ?_;refine au 12 hS ?_;refine au 13 hS ?_;refine au 14 hS ?_;refine au 15 hS ?_;refine bB 1 fun K hK=> ?_;go_simp;refine bK hK (ji.o _ (acD.drew.alloc acC _)) fun hS=> ?_;clear hK K;refine bB 8 fun K hK=> ?_;refine aF (by rfl) (.tmp 5) (.tmp 11) 111 (by rfl) w.heap.size 146 i _ 3 32 Tryz.underlying111 HI.o.1 HI.o.2.1 HI.o.2.2.1 HI.o.2.2.2 rfl (by omega) _ 0 [] (by rfl) (gI (MapKept.heap_alloc w.drew _).1 acC) _ k _ ((E.take k).flatMap fZ) (by rfl) (qV.o _ (acD.drew.alloc acC _)).1 (nO _) (by unfold maxLen;omega) (by omega) (by simp) ?_;intro A1 c1 w1 hown1 hb1;have hB1:Below w.heap.size w w1:=(acD.drew.alloc acC _).trans hb1;refine bK hK (ji.o _ hB1) fun hS=> ?_;clear hK K;refine bB 16 fun K hK=> ?_;refine aF (by rfl) (.tmp 12) (.tmp 19) 111 (by rfl) w.heap.size 146 i _ 3 32 Tryz.underlying111 HI.o.1 HI.o.2.1 HI.o.2.2.1 HI.o.2.2.2 rfl (by omega) _ _ _ (by rfl) hown1 _ (n-(k+1)) _ ((E.drop (k+1)).flatMap fZ) (by rfl) (qV.o _ hB1).2 (nO _) (by unfold maxLen;omega) (by omega) hB1.size ?_;intro A2 c2 w2 hown2 hb2;have hB2:Below w.heap.size w w2:=hB1.trans hb2;refine bK hK (ji.o _ hB2) fun hS=> ?_;clear hK K;refine au 17 hS ?_;refine au 18 hS ?_;refine bB 19 fun K hK=> ?_;go_simp;refine kX hK ?_;clear hS hK K;go_wp2
 all_goals (
  go_end0
  have hl:=Ah.o;have e5:0+k+(n-(k+1))=(E.take k++E.drop (k+1)).length:=by omega
  obtain⟨-,hcc,hnz,hrow2⟩:=ah.oM hown2 (by unfold maxLen;omega);rw[List.nil_append,←aaX,e5]at hrow2;rw[e5]at hcc;refine⟨rfl,A2,c2,w2,hB2,?_,hcc,hnz,hrow2⟩;rw[hl])
theorem Od(k:Nat)(w:World)(h:iP F w r T D E)(hk:k<E.length)(XO:E.length≤1000000):
  Calls Tryz.prog 115 #[ptr r,.int .i64 k] w (eB F w r T D (E.take k++E.drop (k+1)) (.tuple #[])):=by
 obtain⟨aN,cN,aD,cD,aE,cE,h1,h2,h3,h4,h8,h9,h10,h11⟩:=h.head;obtain⟨b,off,rfl,hF,hb,hi,hc⟩:=h10.wide kg rfl (List.getElem?_eq_getElem hk) (by omega);exact(Uy k w E b off E.length cE (by simp[World.cell?,h1]) (h.low r h.own) (ah.frozen h1 rfl) rfl h4 XO h10 hk).mono fun e w' hs=>DX h hs
end
end Go.Proofs.YtjnhnlabpccgjaaGreatDoor
