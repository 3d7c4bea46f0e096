/- The -/
import Derived.Test.YtjnhnlabpccgjaaGreatDoorM18
import Derived.Test.YtjnhnlabpccgjaaGreatDoorM20
import Derived.Test.YtjnhnlabpccgjaaGreatDoorM17
set_option maxRecDepth 100000
set_option maxHeartbeats 64000000
set_option linter.all false
namespace Go.Proofs.YtjnhnlabpccgjaaGreatDoor
open Go.ChangeShapes Go.WideShapes Go.ChangeAt Go.RowKit
theorem flat_get{α β:Type}(f:α→List β)(k:Nat)(hk:∀x,(f x).length=k):∀(L:List α) (i j:Nat) (x:α),L[i]? =some x→j<k→(L.flatMap f)[i*k+j]? =(f x)[j]?
 |[],i,j,x,h,_=>by simp at h
 |y::r,0,j,x,h,hj=>by
  simp only[aao,aac]at h;subst h;rw[List.flatMap_cons,abE,Nat.zero_add,aaG (by rw[hk];exact hj)]
 |y::r,i+1,j,x,h,hj=>by
  rw[List.flatMap_cons,aaz (by rw[hk,Nat.add_mul];omega),hk,show(i+1)*k+j-k=i*k+j by rw[Nat.add_mul];omega];exact flat_get f k hk r i j x (by simpa using h) hj
abbrev kJ:=Int×Nm×Int
def dV(q:Int×bP):List Value:=[.int .i64 q.1,.int .i64 q.2.kind,.int .i64 q.2.links,.int .i64 q.2.b.length,.int .u64 q.2.aA,.bool q.2.closed]
def fZ(e:kJ):List Value:=[.int .i64 e.1,.string (strOf e.2.1),.int .i64 e.2.2]
def mZ(q:Int×bP):List kJ:=q.2.names.map fun e=>(q.1,e.1,e.2)
def aX(T:aL):List kJ:=T.flatMap mZ
def BytesAt(F:Nat→Prop)(w:World)(a:Option Addr)(bs:List (List UInt8)):Prop:=
 ∃vs:List Value,ah F w a bs.length vs∧∀(i:Nat) (b:List UInt8),bs[i]? =some b→∃(a:Option Addr) (c:Nat),vs[i]? =some (.slice a b.length c)∧xq b.length c∧ah F w a b.length (b.map bv)
theorem BytesAt.move{F F':Nat→Prop}{w w':World}{a:Option Addr}{bs:List (List UInt8)}(h:BytesAt F w a bs)(hs:w.heap.size≤w'.heap.size)(hk:∀b,F b→b<w.heap.size→F' b∧w'.heap[b]? =w.heap[b]?):BytesAt F' w' a bs:=by
 obtain⟨vs,h1,h2⟩:=h;refine⟨vs,h1.move hs hk,fun i b hb=> ?_⟩;obtain⟨a,c,h3,h4,h5⟩:=h2 i b hb;exact⟨a,c,h3,h4,h5.move hs hk⟩
def sl(a:Option Addr)(n c:Nat):Value:= .slice a n c
def Base(a:Option Addr)(c:Nat):Prop:=(a=none∧c=0)∨∃b,a=some ⟨b,0,none⟩
def Off(F:Nat→Prop)(r:Nat):Nat→Prop:=fun b=>F b∧b≠r
structure iP(F:Nat→Prop)(w:World)(r:Nat)(T:aL)(D:List (List UInt8))(E:List kJ):Prop where
 head:∃aN cN aD cD aE cE,w.heap[r]? =some (.cells #[.slice aN T.length cN,.slice aD D.length cD,.slice aE E.length cE] 113 (0,0))∧T.length≤cN∧D.length≤cD∧E.length≤cE∧
  ah (Off F r) w aN (T.length*6) (T.flatMap dV)∧BytesAt (Off F r) w aD D∧ah (Off F r) w aE (E.length*3) (E.flatMap fZ)∧Base aE cE
 own:F r
 low:∀b,F b→b<w.heap.size
abbrev jW(F:Nat→Prop)(w:World)(r:Nat)(T:aL):Prop:=iP F w r T (T.map fun q=>q.2.b) (aX T)
theorem iP.keeps{F fp:Nat→Prop}{w w':World}{r:Nat}{T:aL}{D:List (List UInt8)}{E:List kJ}(h:iP F w r T D E)(hK:Keeps fp w w')(hn:∀b,F b→¬fp b):iP F w' r T D E:=by
 have hk:∀b,Off F r b→b<w.heap.size→Off F r b∧w'.heap[b]? =w.heap[b]? :=fun b hb hbw=>⟨hb,hK.block b hbw (hn b hb.1)⟩;obtain⟨aN,cN,aD,cD,aE,cE,h1,h2,h3,h4,h8,h9,h10,h11⟩:=h.head;exact⟨⟨aN,cN,aD,cD,aE,cE,(hK.block r (h.low r h.own) (hn r h.own)).trans h1,h2,h3,h4,h8.move hK.size hk,h9.move hK.size hk,h10.move hK.size hk,h11⟩,h.own,fun b hb=>Pd (h.low b hb) hK.size⟩
theorem iP.below{F:Nat→Prop}{w w':World}{B r:Nat}{T:aL}{D:List (List UInt8)}{E:List kJ}(h:iP F w r T D E)(hb:Below B w w')(hB:w.heap.size≤B):iP F w' r T D E:=
 h.keeps (fp:=fun x=>B≤x) (Keeps.below hb) fun x hx hf=>by have:=h.low x hx;omega
theorem ig(q:Int×bP):(dV q).length=6:=rfl
theorem kg(e:kJ):(fZ e).length=3:=rfl
theorem ah.wide{α:Type}{F:Nat→Prop}{w:World}{a:Option Addr}{n k:Nat}{f:α→List Value}{L:List α}(h:ah F w a (n*k) (L.flatMap f))(hk:∀x,(f x).length=k)(hn:L.length=n){i:Nat}{x:α}(hx:L[i]? =some x)(hk0:0<k):
  ∃b off,a=some ⟨b,off,none⟩∧F b∧b<w.heap.size∧i<n∧∀j,j<k→w.cell? ⟨b,off+i*k+j,none⟩=(f x)[j]? :=by
 have hi:i<n:=by rw[←hn];exact(aae.1 hx).1
 have hik:i*k+k≤n*k:=by rw[←Nat.succ_mul];exact acf k hi
 obtain⟨b,off,e,hF,hb,hc⟩:=h.at_ (by omega);refine⟨b,off,e,hF,hb,hi,fun j hj=> ?_⟩;rw[Nat.add_assoc,hc (i*k+j) (by omega),flat_get f k hk L i j x hx hj]
section
variable{F:Nat→Prop}{r:Nat}{T:aL}{D:List (List UInt8)}{E:List kJ}
def rH(id:Int)(q:Int×bP):Bool:=decide (q.1=id)
theorem zx(id:Int)(w:World)(h:iP F w r T D E)(hl:T.length≤64):Calls Tryz.prog 174 #[ptr r,.int .i64 id] w fun e w'=>e= .returned (.int .i64 (rW (rH id) T))∧w=w':=by
 obtain⟨aN,cN,aD,cD,aE,cE,h1,-,-,-,hN,-,-,-⟩:=h.head;have hr0:=h.low r h.own;have hc0:w.cell? ⟨r,0,none⟩=some (.slice aN T.length cN):=by simp[World.cell?,h1]
 have HN:=acA hN;obtain⟨n,hn⟩:∃n,n=T.length:=⟨_,rfl⟩;rw[←hn]at hc0 hl HN;have HL:=acA hn;clear h h1 hN hn;go_enter Tryz.func174,Tryz.ntmps174;go_wp2
 go_loop [5] (fun i=>∃k:Nat,k≤n∧i= .int .i64 k∧(T.take k).any (rH id)=false) (fun i=>n-(intOf i).toNat)
 case atStart=>exact⟨0,by omega,rfl,by simp⟩
 case round=>
  obtain⟨k,hk,rfl,hany⟩:=hrel;have HA:=acA hany;clear hany;by_cases hlt:k<n
  ·have hx:T[k]? =some (T[k]'(by have:=HL.o;omega)):=List.getElem?_eq_getElem _;obtain⟨q,hq⟩:∃q,q=T[k]'(by have:=HL.o;omega):=⟨_,rfl⟩;rw[←hq]at hx;have HX:=acA hx;obtain⟨b,off,rfl,hF,hb,hi,hc⟩:=HN.o.wide ig HL.o.symm hx (by omega);have c0:w.cell? ⟨b,off+k*6,none⟩=some (.int .i64 q.1):=hc 0 (by omega);clear hx hq hc;have i0:(0:Int)≤k:=by omega
   have i1:(k:Int)<n:=by omega
   by_cases hp:q.1=id
   ·have hpp:(q.1==id)=true:=by simpa using hp
    have HP:acB (rH id q=true):=by show rH id q=true;simp[rH,hp]
    clear hp;go_wp2;go_ret;exact⟨dX (zO HA.o HX.o HP.o).symm,rfl⟩
   ·have hpp:(q.1==id)=false:=by simpa using hp
    have HP:acB (rH id q=false):=by show rH id q=false;simp[rH,hp]
    clear hp;go_wp2
    go_round
    case rel=>exact⟨k+1,by omega,by go_num,any_take_succ HA.o HX.o HP.o⟩
    case measure=>simp[intOf];omega
  ·go_wp2;go_ret;exact⟨dX (qx (by have:=HA.o;rwa [List.take_of_length_le (by have:=HL.o;omega)]at this)).symm,rfl⟩
end
theorem DL{T:aL}{id:Int}(h:aj id T=none):rW (rH id) T= -1:=by
 refine qx ?_;rw[List.any_eq_false];intro q hq;have:=lH.1 h q hq;simpa[rH]using this
theorem mI{T:aL}(hs:aT lI T){id:Int}{x:bP}(h:aj id T=some x):∃k:Nat,rW (rH id) T=k∧T[k]? =some (id,x):=by
 cases hf:T.findIdx? (rH id)with
 |none=>
  rw[abf]at hf;have:=hf _ (dU h);simp[rH]at this
 |some k=>
  refine⟨k,by simp[rW,hf],?_⟩;rw[aa5]at hf;obtain⟨hk,hp,_⟩:=hf;have h1:T[k]? =some T[k]:=List.getElem?_eq_getElem hk;have h2:T[k].1=id:=by simpa[rH]using hp
  have h3:=cK fC hs (abP hk);rw[h2,h]at h3;rw[h1];congr 1;exact aaO h2 (aaK h3).symm
def jr(d:Int)(n:Nm)(e:kJ):Bool:=decide (e.1=d∧e.2.1=n)
section
variable{F:Nat→Prop}{r:Nat}{T:aL}{D:List (List UInt8)}{E:List kJ}
theorem iP.node{w:World}(h:iP F w r T D E){k:Nat}{q:Int×bP}(hq:T[k]? =some q):∃b off c,w.cell? ⟨r,0,none⟩=some (.slice (some ⟨b,off,none⟩) T.length c)∧Off F r b∧b<w.heap.size∧k<T.length∧w.cell? ⟨b,off+k*6,none⟩=some (.int .i64 q.1)∧w.cell? ⟨b,off+k*6+1,none⟩=some (.int .i64 q.2.kind)∧w.cell? ⟨b,off+k*6+2,none⟩=some (.int .i64 q.2.links)∧w.cell? ⟨b,off+k*6+3,none⟩=some (.int .i64 q.2.b.length)∧w.cell? ⟨b,off+k*6+4,none⟩=some (.int .u64 q.2.aA)∧w.cell? ⟨b,off+k*6+5,none⟩=some (.bool q.2.closed):=by
 obtain⟨aN,cN,aD,cD,aE,cE,h1,-,-,-,hN,-,-,-⟩:=h.head;obtain⟨b,off,rfl,hF,hb,hi,hc⟩:=hN.wide ig rfl hq (by omega);exact⟨b,off,cN,by simp[World.cell?,h1],hF,hb,hi,hc 0 (by omega),hc 1 (by omega),hc 2 (by omega),hc 3 (by omega),hc 4 (by omega),hc 5 (by omega)⟩
theorem iP.data{w:World}(h:iP F w r T D E){k:Nat}{d:List UInt8}(hq:D[k]? =some d):∃b off c a c',w.cell? ⟨r,1,none⟩=some (.slice (some ⟨b,off,none⟩) D.length c)∧Off F r b∧b<w.heap.size∧w.cell? ⟨b,off+k,none⟩=some (.slice a d.length c')∧xq d.length c'∧ah (Off F r) w a d.length (d.map bv):=by
 obtain⟨aN,cN,aD,cD,aE,cE,h1,-,-,-,-,hD,-,-⟩:=h.head;obtain⟨vs,hv,hrow⟩:=hD;have hk:k<D.length:=(aae.1 hq).1;obtain⟨b,off,rfl,hF,hb,hc⟩:=hv.at_ (by omega);obtain⟨a,c',h3,h4,h5⟩:=hrow k d hq;exact⟨b,off,cD,a,c',by simp[World.cell?,h1],hF,hb,by rw[hc k hk];exact h3,h4,h5⟩
theorem iP.ent{w:World}(h:iP F w r T D E):∃a c,w.cell? ⟨r,2,none⟩=some (.slice a E.length c)∧E.length≤c∧ah (Off F r) w a (E.length*3) (E.flatMap fZ)∧Base a c:=by
 obtain⟨aN,cN,aD,cD,aE,cE,h1,-,-,h4,-,-,hE,hz⟩:=h.head;exact⟨aE,cE,by simp[World.cell?,h1],h4,hE,hz⟩
theorem iP.nodes{w:World}(h:iP F w r T D E):∃a c,w.cell? ⟨r,0,none⟩=some (.slice a T.length c)∧T.length≤c:=by
 obtain⟨aN,cN,aD,cD,aE,cE,h1,h4,-,-,-,-,-,-⟩:=h.head;exact⟨aN,cN,by simp[World.cell?,h1],h4⟩
theorem nu(id:Int)(w:World)(h:iP F w r T D E)(hT:BJ T):Calls Tryz.prog 104 #[ptr r,.int .i64 id] w fun e w'=>e= .returned (.tuple #[gq T id,.bool (aj id T).isSome])∧Below w.heap.size w w':=by
 have hlen:=hT.len;have HR:=acA (fun o=>zx id (w.alloc o) (h.below (wall w o) acC) hlen);have hr0:=h.low r h.own;unfold gq;cases hx:aj id T with
 |none=>
  rw[DL hx]at HR;clear h hx hT;go_enter Tryz.func104,Tryz.ntmps104;go_wp2_with fail;refine(HR.o _).mono ?_;rintro e w1 ⟨rfl,rfl⟩;go_wp2_with fail;exact aa3 (v:= .tuple #[.agg #[.int .i64 0,.int .i64 0,.int .i64 0,.int .i64 0,.int .u64 0,.bool false],.bool false]) (by simp[results,Tryz.results104,go_sem]) rfl ⟨rfl,wall w _⟩
 |some x=>
  obtain⟨k,hk,hq⟩:=mI hT.sorted hx;rw[hk]at HR;obtain⟨b,off,c,hc0,hF,hb,hkl,c0,c1,c2,c3,c4,c5⟩:=h.node hq;have i0:(0:Int)≤k:=by omega
  have i1:(k:Int)<T.length:=by omega
  have i2:¬(k:Int)<0:=by omega
  simp only at c0 c1 c2 c3 c4 c5;clear h hx hk hq hT;unfold j_;go_enter Tryz.func104,Tryz.ntmps104;go_wp2_with fail;refine(HR.o _).mono ?_;rintro e w1 ⟨rfl,rfl⟩;go_wp2_with fail;exact aa3 (v:= .tuple #[.agg #[.int .i64 id,.int .i64 x.kind,.int .i64 x.links,.int .i64 x.b.length,.int .u64 x.aA,.bool x.closed],.bool true]) (by simp[results,Tryz.results104,go_sem]) rfl ⟨rfl,wall w _⟩
theorem lu(d:Int)(nm:Nm)(w:World)(h:iP F w r T D E)(hl:E.length≤1000000):Calls Tryz.prog 112 #[ptr r,.int .i64 d,.string (strOf nm)] w fun e w'=>e= .returned (.int .i64 (rW (jr d nm) E))∧w=w':=by
 obtain⟨aE,cE,hc0,-,hE,-⟩:=h.ent;have hr0:=h.low r h.own;have HN:=acA hE;obtain⟨n,hn⟩:∃n,n=E.length:=⟨_,rfl⟩;rw[←hn]at hc0 hl HN;have HL:=acA hn;clear h hE hn;go_enter Tryz.func112,Tryz.ntmps112;go_wp2
 go_loop [7] (fun i=>∃k:Nat,k≤n∧i= .int .i64 k∧(E.take k).any (jr d nm)=false) (fun i=>n-(intOf i).toNat)
 case atStart=>exact⟨0,by omega,rfl,by simp⟩
 case round=>
  obtain⟨k,hk,rfl,hany⟩:=hrel;have HA:=acA hany;clear hany;by_cases hlt:k<n
  ·have hx:E[k]? =some (E[k]'(by have:=HL.o;omega)):=List.getElem?_eq_getElem _;obtain⟨q,hq⟩:∃q,q=E[k]'(by have:=HL.o;omega):=⟨_,rfl⟩;rw[←hq]at hx;have HX:=acA hx;obtain⟨b,off,rfl,hF,hb,hi,hc⟩:=HN.o.wide kg HL.o.symm hx (by omega);have c0:w.cell? ⟨b,off+k*3,none⟩=some (.int .i64 q.1):=hc 0 (by omega);have c1:w.cell? ⟨b,off+k*3+1,none⟩=some (.string (strOf q.2.1)):=hc 1 (by omega);clear hx hq hc;have i0:(0:Int)≤k:=by omega
   have i1:(k:Int)<n:=by omega
   by_cases hp:q.1=d
   ·have hpp:(q.1==d)=true:=by simpa using hp
    by_cases hp2:q.2.1=nm
    ·have HP:acB (jr d nm q=true):=by show jr d nm q=true;simp[jr,hp,hp2]
     rw[hp2]at c1;clear hp hp2;go_wp2;go_ret;exact⟨dX (zO HA.o HX.o HP.o).symm,rfl⟩
    ·have HP:acB (jr d nm q=false):=by show jr d nm q=false;simp[jr,hp,hp2]
     obtain⟨hs1,hs2⟩:=RV hp2;clear hp hp2;go_wp2
     go_round
     case rel=>exact⟨k+1,by omega,by go_num,any_take_succ HA.o HX.o HP.o⟩
     case measure=>simp[intOf];omega
   ·have hpp:(q.1==d)=false:=by simpa using hp
    have HP:acB (jr d nm q=false):=by show jr d nm q=false;simp[jr,hp]
    clear hp;go_wp2
    go_round
    case rel=>exact⟨k+1,by omega,by go_num,any_take_succ HA.o HX.o HP.o⟩
    case measure=>simp[intOf];omega
  ·go_wp2;go_ret;exact⟨dX (qx (by have:=HA.o;rwa [List.take_of_length_le (by have:=HL.o;omega)]at this)).symm,rfl⟩
end
theorem xJ{α:Type}{l l':List α}{k:Nat}{x y:α}(hx:l[k]? =some x)(hy:l'[k]? =some y)(h:x≠y):l≠l':=by
 intro e;rw[e,hy]at hx;exact h (aaK hx).symm
theorem zy{α:Type}{l l':List α}{k:Nat}{x:α}(h:l.take k=l'.take k)(hx:l[k]? =some x)(hy:l'[k]? =some x):l.take (k+1)=l'.take (k+1):=by
 rw[abL,abL,h,hx,hy]
theorem FW{x y:ByteArray}(h:x≠y):(x.toList==y.toList)=false:=by
 rw[abn,abm,abm];intro e;exact h (WideShapes.bytes_inj e)
theorem J6(s:ByteArray)(k:Nat)(h:k<s.size):s[k]=s.data.toList.getD k 0:=by
 have h2:k<s.data.toList.length:=by simpa using h
 simp only[List.getD,List.getElem?_eq_getElem h2,Option.getD_some];rfl
theorem AA(s:ByteArray)(w:World)(hs:s.size≤maxLen):
  Calls Tryz.prog 99 #[.string s] w fun e w'=>e= .returned (.bool (dO s.data.toList))∧Below w.heap.size w w':=by
 unfold maxLen at hs;have hb:=Below.refl w.heap.size w;go_enter Tryz.func99,Tryz.ntmps99;go_wp2
 go_loop [3] (fun i=>∃k:Nat,k≤s.size∧i= .int .i64 k∧(s.data.toList.take k).all jH=true) (fun i=>s.size-(intOf i).toNat)
 case atStart=>exact⟨0,by omega,rfl,rfl⟩
 case round=>
  obtain⟨k,hk,rfl,ha⟩:=hrel;have HA:=acA ha;clear ha;by_cases hlt:k<s.size
  ·obtain⟨c,hcc⟩:∃c,c=s.data.toList.getD k 0:=⟨_,rfl⟩;have hix:=J6 s k hlt;rw[←hcc]at hix;have hsn:=IW jH s.data.toList k (by simpa using hlt);rw[←hcc]at hsn;have HS:=acA hsn;have HG:acB (jH c=false→dO s.data.toList=false):=fun h=>by
    have:=IX jH s.data.toList k (by simpa using hlt);rw[←hcc]at this;simp[dO,this h]
   clear hsn hcc;have hbd:=NA c;rcases Nz c with⟨ho,h1,h2⟩|⟨ho,h1,h2,h3⟩|⟨ho,h1⟩|⟨ho,h1⟩|⟨ho,h1⟩|⟨ho,h1,h2,h3,h4,h5,h6⟩|⟨ho,h1,h2,h3,h4,h5,h6⟩|⟨ho,h1,h2,h3,h4,h5⟩
   iterate 5
    ·have HO:=acA ho;clear ho HG;go_wp2
     go_round
     case rel=>exact⟨k+1,by omega,by go_num,by rw[HS.o,HA.o,HO.o];rfl⟩
     case measure=>simp[intOf];omega
   iterate 3
    ·have HO:=acA ho;clear ho;go_wp2;go_ret;exact⟨gU (HG.o HO.o).symm,hb⟩
  ·have hk':k=s.size:=by omega
   have HA2:s.data.toList.all jH=true:=by
    have:=HA.o;rw[hk',List.take_of_length_le (by simp)]at this;exact this
   have hl:s.data.toList.length=s.size:=by simp
   have he:=abm s
   have ways:(s.toList=[]∧s.toList.isEmpty=true∧dO s.data.toList=false)∨
     (¬s.toList=[]∧s.toList.isEmpty=false∧16<s.size∧dO s.data.toList=false)∨
     (¬s.toList=[]∧s.toList.isEmpty=false∧s.size≤16∧s.toList=[46]∧(s.toList==[46])=true∧dO s.data.toList=false)∨
     (¬s.toList=[]∧s.toList.isEmpty=false∧s.size≤16∧¬s.toList=[46]∧(s.toList==[46])=false∧s.toList=[46,46]∧(s.toList==[46,46])=true∧dO s.data.toList=false)∨
     (¬s.toList=[]∧s.toList.isEmpty=false∧s.size≤16∧¬s.toList=[46]∧(s.toList==[46])=false∧¬s.toList=[46,46]∧(s.toList==[46,46])=false∧dO s.data.toList=true):=by
    rw[he];generalize s.data.toList=l at HA2 hl;rw[←hl];exact EY l HA2
   have hz1:acB (s.toList=[]→s.size<1):=fun h=>by rw[he]at h;rw[h]at hl;simp at hl;omega
   have hz2:acB (¬s.toList=[]→1≤s.size):=fun h=>by
    rw[he]at h;have:=List.length_pos_iff.2 h;omega
   clear HA2 hl he HA hk';rcases ways with⟨h1,h2,hg⟩|⟨h1,h2,h3,hg⟩|⟨h1,h2,h3,h4,h5,hg⟩|⟨h1,h2,h3,h4,h5,h6,h7,hg⟩|⟨h1,h2,h3,h4,h5,h6,h7,hg⟩
   ·have hz:=hz1.o h1;have HG:=acA hg;clear hg;go_wp2;go_ret;exact⟨gU HG.o.symm,hb⟩
   all_goals
    have hz:=hz2.o h1;have HG:=acA hg;clear hg;go_wp2;go_ret;exact⟨gU HG.o.symm,hb⟩
theorem J7{S S':Nat→Prop}(a a':Option Addr)(len cap len' cap':Nat)(ss ss':List ByteArray)(w:World)(h:aK S w a len ss)(h':aK S' w a' len' ss'):
  Calls Tryz.prog 117 #[.slice a len cap,.slice a' len' cap'] w fun e w'=>e= .returned (.bool (mO ss ss'))∧Below w.heap.size w w':=by
 have hl:=h.length;have hl':=h'.length;have hm:=h.row.small;have hm':=h'.row.small;unfold maxLen at hm hm';by_cases hle:len'≤len
 ·have HL:=acA hl;have HL':=acA hl';clear hl hl';go_enter Tryz.func117,Tryz.ntmps117;go_wp2
  go_loopw [5] (fun i wr=>∃k:Nat,k≤len'∧i= .int .i64 k∧ss.take k=ss'.take k∧Below w.heap.size w wr) (fun i _=>len'-(intOf i).toNat)
  case atStart=>exact⟨0,by omega,rfl,rfl,Below.refl _ _⟩
  case round=>
   obtain⟨k,hk,rfl,ht,hb⟩:=hrel;have HT:=acA ht;clear ht;by_cases hlt:k<len'
   ·obtain⟨b,off,x,rfl,_,_,hx,_,hc⟩:=(h.below hb acC).cell k (by omega);obtain⟨b',off',y,rfl,_,_,hy,_,hc'⟩:=(h'.below hb acC).cell k hlt;have HX:=acA hx;have HY:=acA hy;clear hx hy h h';have hk0:(0:Int)≤(k:Int):=by omega
    have hk1:(k:Int)<(len:Int):=by omega
    have hk2:(k:Int)<(len':Int):=by omega
    by_cases hxy:x=y
    ·subst hxy;go_wp2
     go_quiet (fail)
     go_wp2;go_roundw
     case rel=>exact⟨k+1,by omega,by go_num,zy HT.o HX.o HY.o,hb.trans ⟨rfl,rfl,rfl,Nat.le_refl _,fun _ _=>rfl⟩⟩
     case measure=>simp[intOf];omega
    ·have hxl:=FW hxy;have HN:=acA hxy;clear hxy;go_wp2
     go_quiet (fail)
     go_wp2;go_ret;refine⟨gU ?_,hb.trans ⟨rfl,rfl,rfl,Nat.le_refl _,fun _ _=>rfl⟩⟩
     symm
     unfold mO;rw[aaF];refine xJ (k:=k) ?_ HY.o HN.o;rw[aaC,if_pos (by have:=HL'.o;omega)];exact HX.o
   ·have hk':k=len':=by omega
    have HK:=acA hk';clear hk';go_wp2;go_ret;refine⟨gU ?_,hb⟩;have:=HT.o;rw[HK.o]at this;unfold mO;rw[HL'.o,this,List.take_of_length_le (by have:=HL'.o;omega)];simp
 ·have hp:mO ss ss'=false:=by
   unfold mO;rw[aaF];intro hh;have:=aaT List.length hh;simp at this;omega
  have HP:=acA hp;clear hp hl hl';go_enter Tryz.func117,Tryz.ntmps117;go_wp2;go_ret;exact⟨gU HP.o.symm,Below.refl _ _⟩
theorem mJ{T:aL}(hs:aT lI T){e:kJ}:e∈aX T↔∃x,aj e.1 T=some x∧e.2∈x.names:=by
 unfold aX;rw[abU];constructor
 ·rintro ⟨q,hq,he⟩;obtain⟨y,hy,rfl⟩:=List.mem_map.1 he;exact⟨q.2,cK fC hs hq,hy⟩
 ·rintro ⟨x,hx,he⟩;exact⟨(e.1,x),dU hx,List.mem_map.2 ⟨e.2,he,rfl⟩⟩
theorem vP{T:aL}(hs:aT lI T){id:Int}{x:bP}{nm:Nm}(hx:aj id T=some x)(hn:aj nm x.names=none):rW (jr id nm) (aX T)= -1:=by
 refine qx ?_;rw[List.any_eq_false];intro e he h;obtain⟨y,hy,hm⟩:=(mJ hs).1 he;simp only[jr,aal]at h;rw[h.1,hx]at hy;cases hy;exact lH.1 hn _ hm h.2
theorem sW{T:aL}(hT:BJ T){id j:Int}{x:bP}{nm:Nm}(hx:aj id T=some x)(hn:aj nm x.names=some j):∃k:Nat,rW (jr id nm) (aX T)=k∧(aX T)[k]? =some (id,nm,j):=by
 have hmem:((id,nm,j):kJ)∈aX T:=(mJ hT.sorted).2 ⟨x,hx,dU hn⟩;cases hf:(aX T).findIdx? (jr id nm)with
 |none=>
  rw[abf]at hf;have:=hf _ hmem;simp[jr]at this
 |some k=>
  refine⟨k,by simp[rW,hf],?_⟩;rw[aa5]at hf;obtain⟨hk,hp,_⟩:=hf;have h1:(aX T)[k]? =some (aX T)[k]:=List.getElem?_eq_getElem hk;obtain⟨e,he⟩:∃e,e=(aX T)[k]:=⟨_,rfl⟩;have hm:=abP hk;rw[←he]at h1 hp hm;simp only[jr,aal]at hp;obtain⟨y,hy,hm2⟩:=(mJ hT.sorted).1 hm;rw[hp.1,hx]at hy;cases hy;have h3:=cK CF (hT.each id x hx).sorted hm2;rw[hp.2,hn]at h3;rw[h1];congr 1;exact aaO hp.1 (aaO hp.2 (aaK h3).symm)
theorem DN{S:Nat→Prop}{w:World}{a:Option Addr}{n:Nat}{ls:List Nm}(h:aK S w a n (ls.map strOf))(k:Nat)(hk:k<n):∃b off nm,a=some ⟨b,off,none⟩∧S b∧b<w.heap.size∧ls[k]? =some nm∧nm.length≤maxLen∧w.cell? ⟨b,off+k,none⟩=some (.string (strOf nm)):=by
 obtain⟨b,off,s,e,hS,hb,hs,hsz,hc⟩:=h.cell k hk;rw[List.getElem?_map]at hs;cases hq:ls[k]? with
 |none=>rw[hq]at hs;cases hs
 |some nm=>
  rw[hq]at hs;have:strOf nm=s:=by simpa using hs
  subst this;rw[fu]at hsz;exact⟨b,off,nm,e,hS,hb,rfl,hsz,hc⟩
theorem Qf{ls:List Nm}(h:ls.any (fun x=> !dO x)=true):bg ls=12:=by unfold bg;rw[if_pos h]
theorem Uv{ls:List Nm}(h:ls.any (fun x=> !dO x)=false):bg ls=if 8<ls.length then 3 else 0:=by unfold bg;rw[if_neg (by rw[h];decide)]
theorem uo{S:Nat→Prop}(a:Option Addr)(n c:Nat)(ls:List Nm)(w:World)(hS:aK S w a n (ls.map strOf)):
  Calls Tryz.prog 173 #[.slice a n c] w fun e w'=>e= .returned (.int .i64 (bg ls))∧Below w.heap.size w w':=by
 have hln:ls.length=n:=by have:=hS.length;simpa using this
 have hnm:=hS.row.small;unfold maxLen at hnm;have HS:=acA (fun w1 (hb:Below w.heap.size w w1)=>hS.below hb acC);have HL:=acA hln;clear hS hln;go_enter Tryz.func173,Tryz.ntmps173;go_wp2
 go_loopw [3] (fun i wr=>∃k:Nat,k≤n∧i= .int .i64 k∧(ls.take k).any (fun x=> !dO x)=false∧Below w.heap.size w wr) (fun i _=>n-(intOf i).toNat)
 case atStart=>exact⟨0,by omega,rfl,by simp,Below.refl _ _⟩
 case round=>
  obtain⟨k,hk,rfl,hany,hB⟩:=hrel;have HA:=acA hany;have HB:=acA hB;clear hany hB;by_cases hlt:k<n
  ·obtain⟨b,off,nm,rfl,_,hbw,hx,hsz,hc⟩:=DN (HS.o wr HB.o) k hlt;have HX:=acA hx;have HG:=acA (AA (strOf nm) wr (by rw[fu];exact hsz));have e0:(strOf nm).data.toList=nm:=by simp[strOf]
   rw[e0]at HG;clear hx hsz e0;have i0:(0:Int)≤k:=by omega
   have i1:(k:Int)<n:=by omega
   cases hp:dO nm with
   |true=>
    rw[hp]at HG;have HP:acB ((fun x:Nm=> !dO x) nm=false):=by show(!dO nm)=false;rw[hp];rfl
    clear hp;go_wp2_with fail;refine HG.o.mono ?_;rintro e w1 ⟨rfl,hb1⟩;go_wp2_with fail;go_roundw
    case rel=>exact⟨k+1,by omega,by go_num,any_take_succ HA.o HX.o HP.o,HB.o.trans (hb1.mono HB.o.size)⟩
    case measure=>simp[intOf];omega
   |false=>
    rw[hp]at HG;have HP:acB (ls.any (fun x=> !dO x)=true):=by
     show ls.any _=true;rw[List.any_eq_true];exact⟨nm,aax HX.o,by rw[hp];rfl⟩
    clear hp;go_wp2_with fail;refine HG.o.mono ?_;rintro e w1 ⟨rfl,hb1⟩;go_wp2_with fail;go_ret;exact⟨dX (Qf HP.o).symm,HB.o.trans (hb1.mono HB.o.size)⟩
  ·have HF:acB (bg ls=if 8<n then 3 else 0):=by
    have:=HA.o;rw[List.take_of_length_le (by have:=HL.o;omega)]at this;have h2:=Uv this;rw[HL.o]at h2;exact h2
   by_cases h8:8<n
   ·have hd:decide ((8:Int)<(n:Int))=true:=by simp only[aal];omega
    rw[if_pos h8]at HF;clear h8;go_wp2;go_ret;exact⟨dX HF.o.symm,HB.o⟩
   ·have hd:decide ((8:Int)<(n:Int))=false:=by simp only[aaF];omega
    rw[if_neg h8]at HF;clear h8;go_wp2;go_ret;exact⟨dX HF.o.symm,HB.o⟩
section
variable{F:Nat→Prop}{r:Nat}{T:aL}
theorem wR{S:Nat→Prop}(a:Option Addr)(n c:Nat)(ls:List Nm)(w:World)(h:jW F w r T)(hT:dG T)(hE:(aX T).length≤1000000)(hS:aK S w a n (ls.map strOf)):
  Calls Tryz.prog 110 #[ptr r,.slice a n c] w fun e w'=>e= .returned (.tuple #[.int .i64 (aJ T 0 ls).1,.int .i64 (aJ T 0 ls).2])∧Below w.heap.size w w':=by
 have hln:ls.length=n:=by have:=hS.length;simpa using this
 have hnm:=hS.row.small;unfold maxLen at hnm;have HS:=acA (fun w1 (hb:Below w.heap.size w w1)=>hS.below hb acC);have HH:=acA (fun w1 (hb:Below w.heap.size w w1)=>h.below hb acC);have hr0:=h.low r h.own;have HT:=acA hT;have HL:=acA hln;have HE:=acA hE;clear hS hln h hT hE;go_enter Tryz.func110,Tryz.ntmps110;go_wp2
 go_loopw [6,7] (fun s i wr=>∃(k:Nat) (id:Int),k≤n∧i= .int .i64 k∧s= .int .i64 id∧(aj id T).isSome=true∧aJ T id (ls.drop k)=aJ T 0 ls∧Below w.heap.size w wr) (fun _ i _=>n-(intOf i).toNat)
 case atStart=>exact⟨0,0,by omega,rfl,rfl,gu HT.o,by simp,Below.refl _ _⟩
 case round=>
  obtain⟨k,id,hk,rfl,rfl,hid,hlk,hB⟩:=hrel;obtain⟨x,hx⟩:=aaf.1 hid;have mg:=acA hlk;have HX:=acA hx;have HB:=acA hB;have HSZ:=acA hB.size;clear hlk hid hx hB;by_cases hlt:k<n
  ·obtain⟨b,off,nm,rfl,_,hbw,hn,hsz,hc⟩:=DN (HS.o wr HB.o) k hlt;have HN:=acA hn;have uT:=acA (nu id wr (HH.o wr HB.o) HT.o.toBJ);have hnd:gq T id=j_ id x:=by unfold gq;rw[HX.o]
   rw[hnd]at uT;unfold j_ at uT;have i0:(0:Int)≤k:=by omega
   have i1:(k:Int)<n:=by omega
   clear hn hnd hsz;by_cases hk2:x.kind=2
   ·rw[hk2]at uT;cases hj:aj nm x.names with
    |none=>
     have hfin:=acA (CS HX.o hk2 HN.o hj);have Wh:=acA (fun w1 (hb:Below w.heap.size w w1)=>lu id nm w1 (HH.o w1 hb) HE.o);rw[vP HT.o.sorted HX.o hj]at Wh;clear hj hk2;go_wp2_with fail;refine uT.o.mono ?_;rintro e w1 ⟨rfl,hb1⟩;have HB1:=acA (HB.o.trans (hb1.mono HB.o.size));have hcb:b<w1.heap.size:=Pd hbw hb1.size;have hc1:w1.cell? ⟨b,off+k,none⟩=some (.string (strOf nm)):=by rw[hb1.cell (p:=⟨b,off+k,none⟩) hbw];exact hc
     have hr1:r<w1.heap.size:=Pd hr0 HB1.o.size;clear hb1;go_wp2_with fail;refine(Wh.o _ (HB1.o.trans ((wall w1 _).mono HB1.o.size))).mono ?_;rintro e w2 ⟨rfl,rfl⟩;go_wp2_with fail
     go_ret2
     exact⟨sF (by rw[←mg.o,hfin.o]),HB1.o.trans ((wall w1 _).mono HB1.o.size)⟩
    |some j=>
     have hfin:=acA (CP HX.o hk2 HN.o hj);have HJ:=acA ((HT.o.leads id x HX.o _ (dU hj)).1);have Wh:=acA (fun w1 (hb:Below w.heap.size w w1)=>lu id nm w1 (HH.o w1 hb) HE.o);obtain⟨m,hm1,hm2⟩:=sW HT.o.toBJ HX.o hj;rw[hm1]at Wh;have Gt:=acA hm2;clear hj hk2 hm1 hm2;go_wp2_with fail;refine uT.o.mono ?_;rintro e w1 ⟨rfl,hb1⟩;have HB1:=acA (HB.o.trans (hb1.mono HB.o.size));have hcb:b<w1.heap.size:=Pd hbw hb1.size;have hc1:w1.cell? ⟨b,off+k,none⟩=some (.string (strOf nm)):=by rw[hb1.cell (p:=⟨b,off+k,none⟩) hbw];exact hc
     have hr1:r<w1.heap.size:=Pd hr0 HB1.o.size;obtain⟨aE,cE,q2,-,hrow,-⟩:=(HH.o w1 HB1.o).ent;obtain⟨b2,off2,rfl,-,hb2,hml,hc2⟩:=hrow.wide kg rfl Gt.o (by omega);have q3:w1.cell? ⟨b2,off2+m*3+2,none⟩=some (.int .i64 j):=hc2 2 (by omega);have m0:(0:Int)≤m:=by omega
     have m1:(m:Int)<(aX T).length:=by omega
     have m2:¬(m:Int)<0:=by omega
     clear hb1 hrow hc2;go_wp2_with fail;refine(Wh.o _ (HB1.o.trans ((wall w1 _).mono HB1.o.size))).mono ?_;rintro e w2 ⟨rfl,rfl⟩;go_wp2_with fail;go_roundw
     case rel=>exact⟨k+1,j,by omega,by go_num,rfl,HJ.o,by rw[←hfin.o];exact mg.o,HB1.o.trans ((wall w1 _).mono HB1.o.size)⟩
     case measure=>simp[intOf];omega
   ·have e1:(x.kind==2)=false:=by simpa using hk2
    have e2:(x.kind !=2)=true:=by simpa using hk2
    have hfin:=acA (CQ HX.o hk2 HN.o);clear hk2;go_wp2_with fail;refine uT.o.mono ?_;rintro e w1 ⟨rfl,hb1⟩;have HB1:=acA (HB.o.trans (hb1.mono HB.o.size));clear hb1;go_wp2_with fail
    go_ret2
    exact⟨sF (by rw[←mg.o,hfin.o]),HB1.o.trans ((wall w1 _).mono HB1.o.size)⟩
  ·go_wp2
   go_ret2
   exact⟨sF (by rw[←mg.o,aaD (by have:=HL.o;omega)];rfl),HB.o⟩
end
theorem Oc:∀a b:List UInt8,Op.bytesLess a b=bytesBefore a b
 |[],[]=>rfl
 |[],_::_=>rfl
 |_::_,[]=>rfl
 |x::r,y::s=>by
  unfold Op.bytesLess bytesBefore;rw[Oc r s]
def ny(d:Int)(nm:Nm)(e:kJ):Bool:=decide (e.1<d)||(decide (e.1=d)&&bytesBefore e.2.1 nm)
def su(E:List kJ)(d:Int)(nm:Nm)(id:Int):List kJ:=E.takeWhile (ny d nm)++(d,nm,id)::E.dropWhile (ny d nm)
theorem yj{α:Type}{p:α→Bool}:∀{l:List α} {k:Nat},(l.take k).all p=true→(∀x,l[k]? =some x→p x=false)→k≤l.length→l.takeWhile p=l.take k∧l.dropWhile p=l.drop k
 |[],k,_,_,hk=>by simp
 |y::r,0,_,h,_=>by
  have:=h y (by simp);simp[this]
 |y::r,k+1,ha,h,hk=>by
  simp only[abo,List.all_cons,aaQ]at ha;obtain⟨h1,h2⟩:=yj (l:=r) (k:=k) ha.2 (fun x hx=>h x (by simpa using hx)) (by simpa using hk);simp[ha.1,h1,h2]
section
variable{κ α:Type}{lt:κ→κ→Bool}
theorem Hl(L:pF lt)(x:κ×α):∀(l:List (κ×α)),(∀p∈l,p.1≠x.1)→kC lt x l=l.takeWhile (fun y=>lt y.1 x.1)++x::l.dropWhile (fun y=>lt y.1 x.1)∨¬aT lt l
 |[],_=> .inl (by simp[kC])
 |y::r,hn=>by
  have hy:y.1≠x.1:=hn y (by simp);have no:∀a b,lt a b=true→lt b a=false:=fun a b h=>by
   cases h3:lt b a with
   |false=>rfl
   |true=>have:=L.trans _ _ _ h h3;rw[L.irr]at this;cases this
  by_cases hs:aT lt (y::r)
  ·left;rcases L.tot y.1 x.1 hy with h|h
   ·have h2:=no _ _ h;unfold kC;rcases Hl L x r (fun p hp=>hn p (by simp[hp]))with h3|h3
    ·rw[if_neg (by rw[h2];decide),aco,acp,if_pos h,if_pos h,h3];rfl
    ·exact absurd (aaw.1 hs).2 h3
   ·have h2:=no _ _ h;unfold kC;rw[if_pos h,aco,acp,if_neg (by rw[h2];decide),if_neg (by rw[h2];decide)];rfl
  ·exact .inr hs
end
theorem Qg{d id:Int}{nm:Nm}{A B:List kJ}(h:∀e∈A,ny d nm e=true):su (A++B) d nm id=A++su B d nm id:=by
 unfold su;rw[List.takeWhile_append_of_pos h,List.dropWhile_append_of_pos h,aau]
theorem MB{α:Type}{p:α→Bool}:∀{B:List α},(∀e∈B,p e=false)→B.takeWhile p=[]∧B.dropWhile p=B
 |[],_=>⟨rfl,rfl⟩
 |e::r,h=>by
  have:=h e (by simp);simp[this]
theorem FX{d id:Int}{nm:Nm}{B:List kJ}(h:∀e∈B,ny d nm e=false):∀A:List kJ,su (A++B) d nm id=su A d nm id++B
 |[]=>by
  obtain⟨h1,h2⟩:=MB h;unfold su;rw[List.nil_append,h1,h2];simp
 |e::r=>by
  have ih:=FX (id:=id) h r;unfold su at ih⊢;rw[List.cons_append,aco,acp,aco,acp];cases he:ny d nm e with
  |true=>
   simp only[if_true,List.cons_append,ih]
  |false=>simp
theorem fA(y:Int×bP)(r:aL):aX (y::r)=mZ y++aX r:=by unfold aX;rw[List.flatMap_cons]
theorem Ho{T:aL}{e:kJ}(h:e∈aX T):∃q∈T,q.1=e.1∧e.2∈q.2.names:=by
 unfold aX at h;obtain⟨q,hq,he⟩:=abU.1 h;obtain⟨y,hy,rfl⟩:=List.mem_map.1 he;exact⟨q,hq,rfl,hy⟩
theorem qC(k:Int)(f:bP→bP)(y:Int×bP)(r:aL):bq k f (y::r)=(if y.1=k then(y.1,f y.2)else y)::bq k f r:=rfl
theorem FY{k:Int}{f:bP→bP}{r:aL}(h:∀q∈r,q.1≠k):bq k f r=r:=by
 unfold bq
 conv=>rhs;rw[←List.map_id r]
 apply aaJ;intro q hq;rw[if_neg (h q hq)];rfl
theorem DR{d id:Int}{nm:Nm}:∀{T:aL} {x:bP},aT lI T→aj d T=some x→aT bytesBefore x.names→aj nm x.names=none→su (aX T) d nm id=aX (setName T d nm id)
 |[],x,_,hx,_,_=>by cases hx
 |y::r,x,hs,hx,hns,hn=>by
  obtain⟨h1,h2⟩:=aaw.1 hs;rw[iQ]at hx;unfold setName;rw[qC,fA,fA];by_cases hy:y.1=d
  ·rw[if_pos hy]at hx;cases hx;rw[if_pos hy,FY (fun q hq=>by have:=h1 q hq;simp at this;omega)];rw[FX (fun e he=>by
    obtain⟨q,hq,hk,_⟩:=Ho he;have:=h1 q hq;simp only[aal]at this;unfold ny;have a1:¬e.1<d:=by omega
    have a2:¬e.1=d:=by omega
    simp[a1,a2])]
   congr 1;unfold su mZ;have hp:(ny d nm)∘(fun e:Nm×Int=>((y.1,e.1,e.2):kJ))=fun e=>bytesBefore e.1 nm:=by
    funext e;simp[ny,hy]
   rw[List.takeWhile_map,List.dropWhile_map,hp];have hk:∀p∈y.2.names,p.1≠nm:=lH.1 hn;unfold dW;rw[nV hn];rcases Hl CF (nm,id) y.2.names hk with h3|h3
   ·rw[h3,List.map_append,aaA,hy]
   ·exact absurd hns h3
  ·rw[if_neg hy]at hx;rw[if_neg hy];have hlt:=h1 _ (dU hx);simp only[aal]at hlt;rw[Qg (fun e he=>by
    obtain⟨z,hz,rfl⟩:=List.mem_map.1 he;unfold ny;simp[hlt])]
   rw[DR h2 hx hns hn];rfl
theorem yt{α:Type}{p:α→Bool}:∀{l:List α} {k:Nat} {x:α},l[k]? =some x→p x=true→l.Pairwise (fun a b=>¬(p a=true∧p b=true))→l.take k++l.drop (k+1)=l.filter fun a=> !p a
 |[],k,x,h,_,_=>by simp at h
 |y::r,0,x,h,hp,hw=>by
  simp only[aao,aac]at h;subst h;have h1:=(aaw.1 hw).1;simp only[List.take_zero,List.nil_append,Nat.zero_add,List.drop_succ_cons,List.drop_zero,aaR,hp,Bool.not_true];rw[if_neg (by decide)]
  symm
  rw[abe];intro a ha;cases hpa:p a with
  |false=>rfl
  |true=>exact absurd ⟨hp,hpa⟩ (h1 a ha)
 |y::r,k+1,x,h,hp,hw=>by
  obtain⟨h1,h2⟩:=aaw.1 hw;have hx:r[k]? =some x:=by simpa using h
  have hy:p y=false:=by
   cases hpy:p y with
   |false=>rfl
   |true=>exact absurd ⟨hpy,hp⟩ (h1 x (aax hx))
  rw[abo,List.drop_succ_cons,List.cons_append,yt hx hp h2,aaR,hy];rfl
theorem MC{T:aL}(hs:aT lI T)(hn:∀q∈T,aT bytesBefore q.2.names)(d:Int)(nm:Nm):(aX T).Pairwise fun a b=>¬(jr d nm a=true∧jr d nm b=true):=by
 unfold aX;rw[List.pairwise_flatMap];refine⟨fun q hq=> ?_,?_⟩
 ·unfold mZ;rw[abJ];refine abI (fun{a b} hab=> ?_) (hn q hq);simp only[jr,aal];rintro ⟨⟨_,h1⟩,_,h2⟩;rw[h1,h2,CF.irr]at hab;cases hab
 ·refine abI (fun{a b} hab=> ?_) hs;intro x hx y hy;obtain⟨x',_,rfl⟩:=List.mem_map.1 hx;obtain⟨y',_,rfl⟩:=List.mem_map.1 hy;simp only[jr,aal];rintro ⟨⟨h1,_⟩,h2,_⟩;simp only[aal]at hab;omega
theorem DT(d:Int)(nm:Nm):∀T:aL,(aX T).filter (fun e=> !jr d nm e)=aX (aG T d nm)
 |[]=>rfl
 |y::r=>by
  have ih:=DT d nm r;unfold aG at ih⊢;rw[qC,fA,fA,aaZ,ih];congr 1;unfold mZ;rw[abY];by_cases hy:y.1=d
  ·rw[if_pos hy];unfold bS;simp only;congr 1;apply List.filter_congr;intro e _;simp[jr,hy]
  ·rw[if_neg hy];congr 1;rw[abe];intro e _;simp[jr,hy]
theorem FZ{x:Int×bP}(hx:x.2.names=[]):∀T:aL,aX (kC lI x T)=aX T
 |[]=>by
  unfold kC;rw[fA];unfold mZ;rw[hx];rfl
 |y::r=>by
  unfold kC;split
  ·rw[fA];unfold mZ;rw[hx];rfl
  ·rw[fA,fA,FZ hx r]
theorem J8{T:aL}{f kind:Int}(hf:aj f T=none):aX (dW lI f (dh kind) T)=aX T:=by
 unfold dW;rw[nV hf];exact FZ (x:=(f,dh kind)) rfl T
theorem J9{id:Int}:∀{T:aL},(∀q∈T,q.1=id→q.2.names=[])→aX (bS id T)=aX T
 |[],_=>rfl
 |y::r,h=>by
  have ih:=J9 (T:=r) (id:=id) fun q hq=>h q (by simp[hq]);unfold bS at ih⊢;rw[aaR];by_cases hy:y.1=id
  ·have:=h y (by simp) hy;simp only[hy,decide_true,Bool.not_true];rw[if_neg (by decide),ih,fA];unfold mZ;rw[this];rfl
  ·simp only[hy,decide_false,Bool.not_false,if_true];rw[fA,fA,ih]
theorem ow{id:Int}{f:bP→bP}(hf:∀x,(f x).names=x.names):∀T:aL,aX (bq id f T)=aX T
 |[]=>rfl
 |y::r=>by
  rw[qC,fA,fA,ow hf r];congr 1;by_cases hy:y.1=id
  ·rw[if_pos hy];unfold mZ;simp only;rw[hf]
  ·rw[if_neg hy]
theorem DU(id:Int):∀T:aL,aX (gM T id)=(aX T).filter fun e=> !decide (e.2.2=id)
 |[]=>rfl
 |y::r=>by
  have:gM (y::r) id=(y.1,iC id y.2)::gM r id:=rfl;rw[this,fA,fA,aaZ,DU id r];congr 1;unfold mZ iC;simp only;rw[abY];rfl
theorem Uw{T:aL}(hs:aT lI T)(id:Int):T.Pairwise fun a b=>¬(rH id a=true∧rH id b=true):=by
 refine abI (fun{a b} hab=> ?_) hs;simp only[rH,aal];simp only[aal]at hab;omega
theorem del_at{T:aL}(hs:aT lI T){k:Nat}{q:Int×bP}(hq:T[k]? =some q):T.take k++T.drop (k+1)=bS q.1 T:=by
 rw[yt (p:=rH q.1) hq (by simp[rH]) (Uw hs q.1)];rfl
theorem qp{f:bP→bP}:∀{T:aL} {k:Nat} {q:Int×bP},aT lI T→T[k]? =some q→T.set k (q.1,f q.2)=bq q.1 f T
 |[],k,q,_,h=>by simp at h
 |y::r,0,q,hs,h=>by
  simp only[aao,aac]at h;subst h;obtain⟨h1,_⟩:=aaw.1 hs;rw[qC,if_pos rfl,FY (fun p hp=>by have:=h1 p hp;simp at this;omega)];rfl
 |y::r,k+1,q,hs,h=>by
  obtain⟨h1,h2⟩:=aaw.1 hs;have hx:r[k]? =some q:=by simpa using h
  have:=h1 q (aax hx);simp only[aal]at this;rw[qC,if_neg (by omega),←qp h2 hx];rfl
theorem yu{id:Int}{f:bP→bP}(hf:∀x,dV (id,f x)=dV (id,x)):∀T:aL,(bq id f T).flatMap dV=T.flatMap dV
 |[]=>rfl
 |y::r=>by
  rw[qC,List.flatMap_cons,List.flatMap_cons,yu hf r];congr 1;by_cases hy:y.1=id
  ·rw[if_pos hy,hy,hf,←hy]
  ·rw[if_neg hy]
theorem qD{id:Int}{f:bP→bP}(hf:∀x,(f x).b=x.b)(T:aL):(bq id f T).map (fun q=>q.2.b)=T.map fun q=>q.2.b:=by
 unfold bq;rw[List.map_map];apply aaJ;intro q _;by_cases h:q.1=id<;>simp[h,hf]
theorem J_(id:Int)(T:aL):(gM T id).flatMap dV=T.flatMap dV:=by
 unfold gM;rw[List.flatMap_map];rfl
theorem ME(id:Int)(T:aL):(gM T id).map (fun q=>q.2.b)=T.map fun q=>q.2.b:=by
 unfold gM;rw[List.map_map];rfl
theorem data_set{f:bP→bP}{T:aL}{k:Nat}{q:Int×bP}(hs:aT lI T)(hq:T[k]? =some q):(bq q.1 f T).map (fun q=>q.2.b)=(T.map fun q=>q.2.b).set k (f q.2).b:=by
 rw[←qp hs hq,List.map_set]
theorem put_at{T:aL}(hs:aT lI T){f:Int}(x:bP)(hf:aj f T=none):dW lI f x T=T.takeWhile (fun q=>decide (q.1<f))++(f,x)::T.dropWhile fun q=>decide (q.1<f):=by
 unfold dW;rw[nV hf];rcases Hl fC (f,x) T (lH.1 hf)with h|h
 ·exact h
 ·exact absurd hs h
theorem jw{T:aL}(hT:dG T):(aX T).length≤4096:=by
 have h1:=Lb (fun e:kJ=>e.2.2) 64 (T.map (·.1)) (aX T) (fun e he=>by
  obtain⟨x,hx,hm⟩:=(mJ hT.sorted).1 he;obtain⟨y,hy⟩:=aaf.1 (hT.leads _ x hx e.2 hm).1;exact List.mem_map.2 ⟨_,dU hy,rfl⟩) (fun j hj=>by
   have hcnt:(aX T).countP (fun e=>decide (e.2.2=j))=jh T j:=by
    unfold aX jh cn;rw[List.countP_flatMap];congr 1;apply aaJ;intro q _;unfold mZ;simp only[Function.comp_apply,List.countP_map];rfl
   rw[hcnt];by_cases h0:j=0
   ·have:(aX T).countP (fun e=>decide (e.2.2=j))=0:=by
     rw[abW];intro e he;obtain⟨x,hx,hm⟩:=(mJ hT.sorted).1 he;have:=(hT.leads _ x hx e.2 hm).2;simp[h0,this]
    omega
   ·obtain⟨q,hq,rfl⟩:=List.mem_map.1 hj;have hy:=cK fC hT.sorted hq;have h2:=hT.counts _ _ hy h0;have h3:=(hT.each _ _ hy).links;omega)
 have:=hT.len;rw[List.length_map]at h1;omega
theorem Bu{S S':Nat→Prop}(a:Option Addr)(n c:Nat)(ls:List Nm)(a':Option Addr)(n' c':Nat)(ls':List Nm)(w:World)(hS:aK S w a n (ls.map strOf))(hS':aK S' w a' n' (ls'.map strOf)):
  Calls Tryz.prog 109 #[.slice a n c,.slice a' n' c'] w fun e w'=>e= .returned (.int .i64 (kE ls ls'))∧Below w.heap.size w w':=by
 have H1:=acA (uo a n c ls w hS);have H2:=acA (fun w1 (hb:Below w.heap.size w w1)=>uo a' n' c' ls' w1 (hS'.below hb acC));clear hS hS';unfold kE;by_cases h0:bg ls=0
 ·rw[h0]at H1;rw[if_neg (by rw[h0];simp)];clear h0;go_enter Tryz.func109,Tryz.ntmps109;go_wp2_with fail;refine H1.o.mono ?_;rintro e w1 ⟨rfl,hb1⟩;have HB1:=acA hb1;clear hb1;go_wp2_with fail;refine(H2.o w1 HB1.o).mono ?_;rintro e w2 ⟨rfl,hb2⟩;go_wp2_with fail;go_ret;exact⟨rfl,HB1.o.trans (hb2.mono HB1.o.size)⟩
 ·rw[if_pos h0];have hne:(bg ls==0)=false:=by simpa using h0
  have hne2:(bg ls !=0)=true:=by simpa using h0
  clear h0;go_enter Tryz.func109,Tryz.ntmps109;go_wp2_with fail;refine H1.o.mono ?_;rintro e w1 ⟨rfl,hb1⟩;go_wp2_with fail;go_ret;exact⟨rfl,hb1⟩
section
variable{F:Nat→Prop}{r:Nat}{T:aL}
theorem AB{S:Nat→Prop}(a:Option Addr)(n c:Nat)(ls:List Nm)(w:World)(h:jW F w r T)(hT:dG T)(hE:(aX T).length≤1000000)(hS:aK S w a n (ls.map strOf)):
  Calls Tryz.prog 103 #[ptr r,.slice a n c] w fun e w'=>e= .returned (.tuple #[.int .i64 (aQ T ls).1,.int .i64 (aQ T ls).2])∧Below w.heap.size w w':=by
 have H1:=acA (uo a n c ls w hS);have H2:=acA (fun w1 (hb:Below w.heap.size w w1)=>wR a n c ls w1 (h.below hb acC) hT hE (hS.below hb acC));clear hS h hT hE;unfold aQ;by_cases h0:bg ls=0
 ·rw[h0]at H1;rw[if_neg (by rw[h0];simp)];clear h0;go_enter Tryz.func103,Tryz.ntmps103;go_wp2_with fail;refine H1.o.mono ?_;rintro e w1 ⟨rfl,hb1⟩;have HB1:=acA hb1;clear hb1;go_wp2_with fail;refine(H2.o w1 HB1.o).mono ?_;rintro e w2 ⟨rfl,hb2⟩;go_wp2_with fail
  go_ret2
  exact⟨rfl,HB1.o.trans (hb2.mono HB1.o.size)⟩
 ·rw[if_pos h0];have hne:(bg ls==0)=false:=by simpa using h0
  have hne2:(bg ls !=0)=true:=by simpa using h0
  clear h0;go_enter Tryz.func103,Tryz.ntmps103;go_wp2_with fail;refine H1.o.mono ?_;rintro e w1 ⟨rfl,hb1⟩;go_wp2_with fail
  go_ret2
  exact⟨rfl,hb1⟩
def Ka(T:aL)(id:Int):Int:=if bV T id=0 then rW (rH id) T else 0
theorem sZ(id:Int)(w:World)(h:jW F w r T)(hT:BJ T):Calls Tryz.prog 175 #[ptr r,.int .i64 id] w fun e w'=>e= .returned (.tuple #[.int .i64 (Ka T id),.int .i64 (bV T id)])∧w=w':=by
 have HR:=acA (zx id w h hT.len);have hr0:=h.low r h.own;cases hx:aj id T with
 |none=>
  have e1:bV T id=20:=by unfold bV;rw[hx]
  have e2:Ka T id=0:=by unfold Ka;simp only[e1];rfl
  rw[DL hx]at HR;rw[e1,e2];clear h hx hT e1 e2;go_enter Tryz.func175,Tryz.ntmps175;go_wp2_with fail;refine HR.o.mono ?_;rintro e w1 ⟨rfl,rfl⟩;go_wp2_with fail
  go_ret2
  exact⟨rfl,rfl⟩
 |some x=>
  obtain⟨k,hk,hq⟩:=mI hT.sorted hx;rw[hk]at HR;obtain⟨b,off,c,hc0,hF,hb,hkl,c0,c1,c2,c3,c4,c5⟩:=h.node hq;have i0:(0:Int)≤k:=by omega
  have i1:(k:Int)<T.length:=by omega
  have i2:¬(k:Int)<0:=by omega
  simp only at c0 c1 c2 c3 c4 c5;by_cases hk2:x.kind=2
  ·have e1:bV T id=22:=by unfold bV;rw[hx];exact if_pos hk2
   have e2:Ka T id=0:=by unfold Ka;simp only[e1];rfl
   rw[e1,e2];rw[hk2]at c1;clear hk2 e1 e2 h hx hk hq hT;go_enter Tryz.func175,Tryz.ntmps175;go_wp2_with fail;refine HR.o.mono ?_;rintro e w1 ⟨rfl,rfl⟩;go_wp2_with fail
   go_ret2
   exact⟨rfl,rfl⟩
  ·have e1:bV T id=0:=by unfold bV;rw[hx];exact if_neg hk2
   have e2:Ka T id=k:=by unfold Ka;simp only[e1];exact hk
   rw[e1,e2];have e3:(x.kind==2)=false:=by simpa using hk2
   clear hk2 e1 e2 h hx hk hq hT;go_enter Tryz.func175,Tryz.ntmps175;go_wp2_with fail;refine HR.o.mono ?_;rintro e w1 ⟨rfl,rfl⟩;go_wp2_with fail
   go_ret2
   exact⟨rfl,rfl⟩
theorem oz{S:Nat→Prop}(a:Option Addr)(n c:Nat)(ls:List Nm)(w:World)(h:jW F w r T)(hT:dG T)(hE:(aX T).length≤1000000)(hS:aK S w a n (ls.map strOf))(hc:n≤c)(lF:n≤1000000):
  Calls Tryz.prog 111 #[ptr r,.slice a n c] w fun e w'=>e= .returned (.tuple #[.int .i64 (aH T ls).1,.string (strOf (aH T ls).2.1),.int .i64 (aH T ls).2.2])∧Below w.heap.size w w':=by
 have hln:ls.length=n:=by have:=hS.length;simpa using this
 unfold aH;by_cases h0:ls=[]
 ·rw[if_pos h0];have hn:n=0:=by rw[←hln,h0];rfl
  subst hn;clear h hT hS hE;go_enter Tryz.func111,Tryz.ntmps111;go_wp2
  go_ret3
  exact⟨rfl,Below.refl _ _⟩
 ·rw[if_neg h0];obtain⟨j,rfl⟩:∃j,n=j+1:=⟨n-1,by
   have:n≠0:=fun e=>h0 (aai (by omega));omega⟩
  obtain⟨b,off,nm,rfl,_,hbw,hx,hsz,hcn⟩:=DN hS j (by omega);have hdl:(ls.map strOf).take j=ls.dropLast.map strOf:=by
   rw[List.dropLast_eq_take,hln,aa9];rfl
  have hnm:ls.getLastD []=nm:=by
   rw[abN,List.getLast?_eq_getElem?,hln,show j+1-1=j from rfl,hx];rfl
  have hT1:=hS.take j (by omega);rw[hdl]at hT1;have mg:=acA (wR _ j c ls.dropLast w h hT hE hT1);have HH:=acA (fun w1 (hb:Below w.heap.size w w1) id=>nu id w1 (h.below hb acC) hT.toBJ);have HTH:=acA (gL hT ls.dropLast 0 (gu hT));have e1:IntKind.i64.wrap (((j+1:Nat):Int)-1)=(j:Int):=by rw[show(((j+1:Nat):Int)-1)=(j:Int)by omega];exact aak _ (by omega)
  have e1':IntKind.i64.wrap ((j:Int)+1-1)=(j:Int):=by rw[show((j:Int)+1-1)=(j:Int)by omega];exact aak _ (by omega)
  have i0:(0:Int)≤j:=by omega
  have i1:(j:Int)<((j+1:Nat):Int):=by omega
  have i1':(j:Int)<(j:Int)+1:=by omega
  have i2:(((j+1:Nat):Int)==0)=false:=by simp;omega
  have i2':((j:Int)+1==0)=false:=by simp;omega
  have hjc:j≤c:=by omega
  rw[hnm];clear h hT hE hS hx hsz hdl hnm hT1 hln h0;obtain⟨⟨d,e0⟩,hq⟩:∃q,q=aJ T 0 ls.dropLast:=⟨_,rfl⟩;rw[←hq]at mg HTH;rw[←hq];clear hq;simp only at mg HTH;simp only;by_cases he:e0=0
  ·subst he;obtain⟨x,hx⟩:=aaf.1 (HTH.o rfl);have hnd:gq T d=j_ d x:=by unfold gq;rw[hx]
   have hkd:=dM hx;have HHd:=acA (fun w1 hb=>HH.o w1 hb d);rw[hnd]at HHd;unfold j_ at HHd;rw[if_neg (by simp),hkd];clear hnd hkd HH hx HTH;by_cases hk2:x.kind=2
   ·rw[if_pos hk2];rw[hk2]at HHd;clear hk2;go_enter Tryz.func111,Tryz.ntmps111;go_wp2_with fail;refine mg.o.mono ?_;rintro e w1 ⟨rfl,hb1⟩;have HB1:=acA hb1;clear hb1;go_wp2_with fail;refine(HHd.o w1 HB1.o).mono ?_;rintro e w2 ⟨rfl,hb2⟩;have HB2:=acA (HB1.o.trans (hb2.mono HB1.o.size));clear hb2;have hs2:=HB2.o.size;have hc2:w2.cell? ⟨b,off+j,none⟩=some (.string (strOf nm)):=by rw[HB2.o.cell (p:=⟨b,off+j,none⟩) hbw];exact hcn
    have hb2w:b<w2.heap.size:=by omega
    go_wp2_with fail
    go_quiet (fail)
    go_wp2_with fail
    go_ret3
    exact⟨rfl,HB2.o.trans ⟨rfl,rfl,rfl,by simp,fun x hx=>abt _ _ _ (by omega)⟩⟩
   ·have e3:(x.kind==2)=false:=by simpa using hk2
    have e4:(x.kind !=2)=true:=by simpa using hk2
    rw[if_neg hk2];clear hk2;go_enter Tryz.func111,Tryz.ntmps111;go_wp2_with fail;refine mg.o.mono ?_;rintro e w1 ⟨rfl,hb1⟩;have HB1:=acA hb1;clear hb1;go_wp2_with fail;refine(HHd.o w1 HB1.o).mono ?_;rintro e w2 ⟨rfl,hb2⟩;have HB2:=acA (HB1.o.trans (hb2.mono HB1.o.size));clear hb2;go_wp2_with fail
    go_ret3
    exact⟨rfl,HB2.o.trans ((wall w2 _).mono HB2.o.size)⟩
  ·rw[if_pos he];have hne:(e0==0)=false:=by simpa using he
   have hne2:(e0 !=0)=true:=by simpa using he
   clear he HH HTH;go_enter Tryz.func111,Tryz.ntmps111;go_wp2_with fail;refine mg.o.mono ?_;rintro e w1 ⟨rfl,hb1⟩;go_wp2_with fail
   go_ret3
   exact⟨rfl,hb1⟩
end
end Go.Proofs.YtjnhnlabpccgjaaGreatDoor
