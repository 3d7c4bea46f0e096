/- Arguments opened: slices of bytes, of truths, of structs. The lemma open_slice_fields is the guide's own (extra-structs). The reference's tree in memory; at, Node, entry. The reference: Node, entry. What chapter 7's reference says: Good, Within. The reference: right, look, Look, file. The reference's lists, plainly: what becomes of the nodes and of the entries. -/
import Derived.Test.YtjnhnlabpccgjaaGreatM03
import Derived.Deep.Slices
import Derived.Deep.Fields
import Derived.Deep.Grids
import Derived.ChangeSame
import Derived.Lib.SmallJoins
import Derived.Test.YtjnhnlabpccgjaaGreatM18
import Derived.Test.YtjnhnlabpccgjaaGreatM16
import Derived.Test.YtjnhnlabpccgjaaGreatM17
namespace Go.Proofs.YtjnhnlabpccgjaaGreat
open Go.Joins Go.ChangeShapes Go.WideShapes Go.ChangeAt Go.RowKit Go.Deep
set_option linter.unusedVariables false
section
variable {H:Type} {enc:TypeId×Value→H} {P:Program} {w:World} {base:Nat} {spare:Nat→Bool} {held:Bool}
theorem uI {t e:TypeId} {fs:Array Field} {fuel:Nat} {cs:List Value} {x:DataW H×List MemPlace} (ht:P.underlying t=some (.slice e)) (he:P.underlying e=some (.struct fs))
  (hone:oneCellFields P fs=true) (hC:P.cellsOf e=fs.size) (h:DataW.trod enc P w base spare held fuel t cs=some x):
  (cs=[.slice none 0 0]∧x=(.nil,[]))∨
  ∃(a:Addr) (len cap m:Nat) (D:Nat→DataW H) (Pl:Nat→List MemPlace),cs=[.slice (some a) len cap]∧base≤a.block∧len≤cap∧cap≤maxLen∧m=(if spare a.block then cap else len)∧
   x=(.slice ((List.range len).map D) ((List.range (m-len)).map fun j=>D (len+j)),MemPlace.row a (m*fs.size)++(List.range m).flatMap Pl)∧
   ∀i,i<m→∃(ys:List (DataW H×List MemPlace)) (n:Nat),D i= .agg (ys.map (·.1))∧Pl i=ys.flatMap (·.2)∧ys.length=fs.size∧
    ∀(j:Nat) (f:Field),fs[j]? =some f→∃(v:Value) (y:DataW H×List MemPlace),w.cell? (a.add (i*fs.size+j))=some v∧ys[j]? =some y∧DataW.trod enc P w base spare held n f.type [v]=some y:=by
 rcases open_slice ht h with h0|⟨a,len,cap,m,n,D,Pl,hcs,hb,hl,hm,hmm,hx,hi⟩
 ·exact .inl h0
 ·refine .inr ⟨a,len,cap,m,D,Pl,hcs,hb,hl,hm,hmm,by rw[hC]at hx;exact hx,fun i him=> ?_⟩
  obtain⟨cs',hc,ht'⟩:=hi i him
  rw[hC]at hc
  obtain⟨ys,n',hn',hy,hlen,hyl,hf⟩:=DataW.trod_struct he ht'
  obtain⟨_,hcl,hat⟩:=World.cells?_some hc
  simp only[Prod.mk.injEq]at hy
  refine⟨ys,n',hy.1,hy.2,hyl,fun j f hj=> ?_⟩
  obtain⟨ho,hk⟩:=hone_of hone j f hj
  have hjl:j<fs.size:=(Array.getElem?_eq_some_iff.1 hj).1
  have hcell:=hat j hjl
  have hv:cs'[j]? =some (cs'[j]'(by omega)):=List.getElem?_eq_getElem (by omega)
  have h1:=hf j f hj
  rw[ho,hk]at h1
  have hone':(cs'.drop j).take 1=[cs'[j]'(by omega)]:=by
   rw[List.drop_eq_getElem_cons (by omega)]
   rfl
  rw[hone']at h1
  have hys:ys[j]? =some (ys[j]'(by omega)):=List.getElem?_eq_getElem (by omega)
  refine⟨_,_,?_,hys,h1.trans hys⟩
  rw[←Go.Deep.add_add,hcell,hv]
end
section
variable {H:Type} {enc:TypeId×Value→H} {W:World}
def byteOf (z:Int):UInt8:=UInt8.ofNat z.toNat
theorem Jz {z:Int} (h:(Lit.int .u8 z).wf=true):bv (byteOf z)= .int .u8 z:=by
 simp[Lit.wf,IntKind.min,IntKind.max,IntKind.signed,IntKind.bits]at h
 unfold bv byteOf
 rw[UInt8.toNat_ofNat']
 congr 1
 omega
abbrev Old (W:World) (x:Nat):Prop:=x<W.heap.size
theorem wQ {fuel:Nat} {v:Value} {x:DataW H×List MemPlace} (h:DataW.trod enc Tryz.prog W 0 (fun _=>true) true fuel 23 [v]=some x) (l:∀p∈x.2,p.block<W.heap.size):
  ∃a len cap bs,v= .slice a len cap∧len≤cap∧aj (Old W) W a len ((bs:List UInt8).map bv):=by
 rcases open_ints Tryz.underlying23 Tryz.underlying5 (by kernel_rfl) h with⟨hcs,hx⟩|⟨a,len,cap,zs,hcs,_,hl,hm,hz,hx,hcell,hwz⟩
 ·simp only[List.cons.injEq,and_true]at hcs
  subst hcs
  exact⟨none,0,0,[],rfl,Nat.le_refl _,aj.nil _ _ _⟩
 ·simp only[List.cons.injEq,and_true]at hcs
  subst hcs
  subst hx
  simp only[if_true]at hz
  refine⟨some a,len,cap,(zs.take len).map byteOf,rfl,hl,by simp;omega,by omega,fun h0=> ?_⟩
  obtain⟨b,off,spot⟩:=a
  have hspot:spot=none:=by simpa[Addr.add]using World.cell?_spot (hcell 0 (by omega))
  subst hspot
  have hb:b<W.heap.size:=l (.cell b off) (MemPlace.mem_row.2 ⟨0,by omega,by simp⟩)
  refine⟨b,off,rfl,hb,hb,fun i hi=> ?_⟩
  have h1:=hcell i (by omega)
  rw[add_plain]at h1
  have hi':i<zs.length:=by omega
  rw[h1,List.map_map,List.getElem?_map,List.getElem?_take,if_pos hi,List.getElem?_eq_getElem hi']
  simp only[Option.map_some,Function.comp,List.getD,List.getElem?_eq_getElem hi',Option.getD_some]
  rw[Jz (hwz _ (List.getElem_mem hi'))]
end
section
variable {H:Type} {P:Program}
theorem qL {e:TypeId}:∀{l:List (DataW H)} {d:DataW H},d∈l→∀n∈d.weights P e,n∈DataW.weightsAll P e l
 |x::r,d,h,n,hn=>by
  rcases List.mem_cons.1 h with rfl|h
  ·exact List.mem_append_left _ hn
  ·exact List.mem_append_right _ (qL h n hn)
theorem mV:∀{ts:List TypeId} {ds:List (DataW H)} {j:Nat} {t:TypeId} {d:DataW H},ts[j]? =some t→ds[j]? =some d→∀n∈d.weights P t,n∈DataW.weightsEach P ts ds
 |t'::ts,d'::ds,0,t,d,ht,hd,n,hn=>by
  simp only[List.getElem?_cons_zero,Option.some.injEq]at ht hd
  subst ht hd
  exact List.mem_append_left _ hn
 |t'::ts,d'::ds,j+1,t,d,ht,hd,n,hn=>by
  simp only[List.getElem?_cons_succ]at ht hd
  exact List.mem_append_right _ (mV ht hd n hn)
 |[],_,_,_,_,ht,_,_,_=>by simp at ht
 |_::_,[],_,_,_,_,hd,_,_=>by simp at hd
theorem Ct {t e:TypeId} (ht:P.underlying t=some (.slice e)) (elems rest:List (DataW H)):(elems.length+rest.length)*P.bytesOf e∈(DataW.slice elems rest).weights P t:=by
 unfold DataW.weights
 rw[ht]
 exact List.mem_cons_self
theorem Cu {t e:TypeId} (ht:P.underlying t=some (.slice e)) {elems rest:List (DataW H)} {d:DataW H} (hd:d∈elems) {n:Nat} (hn:n∈d.weights P e):n∈(DataW.slice elems rest).weights P t:=by
 unfold DataW.weights
 rw[ht]
 exact List.mem_cons_of_mem _ (List.mem_append_left _ (qL hd n hn))
theorem Cv {t:TypeId} {fs:Array Field} (ht:P.underlying t=some (.struct fs)) {parts:List (DataW H)} {j:Nat} {f:Field} {d:DataW H} (hf:fs[j]? =some f) (hd:parts[j]? =some d) {n:Nat} (hn:n∈d.weights P f.type):n∈(DataW.agg parts).weights P t:=by
 unfold DataW.weights
 rw[ht]
 refine mV (j:=j) (t:=f.type) (d:=d) ?_ hd n hn
 rw[List.getElem?_map,Array.getElem?_toList,hf]
 rfl
end
section
variable {H:Type} {enc:TypeId×Value→H} {W:World}
theorem RD:Tryz.prog.bytesOf 5=1:=by kernel_rfl
theorem D8 {fuel:Nat} {v:Value} {x:DataW H×List MemPlace} (h:DataW.trod enc Tryz.prog W 0 (fun _=>true) true fuel 23 [v]=some x) (l:∀p∈x.2,p.block<W.heap.size) (hw:∀n∈x.1.weights Tryz.prog 23,n≤reachBytes):
  ∃a len cap bs,v= .slice a len cap∧len≤cap∧aj (Old W) W a len ((bs:List UInt8).map bv)∧len≤140737488351232:=by
 obtain⟨a,len,cap,bs,rfl,hlc,hr⟩:=wQ h l
 refine⟨a,len,cap,bs,rfl,hlc,hr,?_⟩
 rcases open_ints Tryz.underlying23 Tryz.underlying5 (by kernel_rfl) h with⟨hcs,hx⟩|⟨a',len',cap',zs,hcs,_,hl,hm,hz,hx,_,_⟩
 ·simp only[List.cons.injEq,and_true,Value.slice.injEq]at hcs
  obtain⟨_,rfl,_⟩:=hcs
  omega
 ·simp only[List.cons.injEq,and_true,Value.slice.injEq]at hcs
  obtain⟨_,rfl,_⟩:=hcs
  subst hx
  have h1:=hw _ (Ct Tryz.underlying23 _ _)
  rw[RD]at h1
  simp only[if_true]at hz
  unfold lits at h1
  simp only[List.length_map,List.length_take,List.length_drop]at h1
  unfold reachBytes at h1
  omega
end
open Go.ChangeShapes Go.WideShapes Go.ChangeAt Go.RowKit
set_option linter.unusedSimpArgs false
theorem flat_get {α β:Type} (f:α→List β) (k:Nat) (hk:∀x,(f x).length=k):∀(L:List α) (i j:Nat) (x:α),L[i]? =some x→j<k→(L.flatMap f)[i*k+j]? =(f x)[j]?
 |[],i,j,x,h,_=>by simp at h
 |y::r,0,j,x,h,hj=>by
  simp only[List.getElem?_cons_zero,Option.some.injEq]at h
  subst h
  rw[List.flatMap_cons,Nat.zero_mul,Nat.zero_add,List.getElem?_append_left (by rw[hk];exact hj)]
 |y::r,i+1,j,x,h,hj=>by
  rw[List.flatMap_cons,List.getElem?_append_right (by rw[hk,Nat.add_mul];omega),hk,show(i+1)*k+j-k=i*k+j by rw[Nat.add_mul];omega]
  exact flat_get f k hk r i j x (by simpa using h) hj
abbrev iM:=Int×Nm×Int
def dx (q:Int×bA):List Value:=[.int .i64 q.1, .int .i64 q.2.kind, .int .i64 q.2.links, .int .i64 q.2.b.length, .int .u64 q.2.aO, .bool q.2.closed]
def dX (e:iM):List Value:=[.int .i64 e.1, .string (strOf e.2.1), .int .i64 e.2.2]
def jK (q:Int×bA):List iM:=q.2.names.map fun e=>(q.1,e.1,e.2)
def aU (T:aF):List iM:=T.flatMap jK
def BytesAt (F:Nat→Prop) (w:World) (a:Option Addr) (bs:List (List UInt8)):Prop:=
 ∃vs:List Value,aj F w a bs.length vs∧∀(i:Nat) (b:List UInt8),bs[i]? =some b→∃(a:Option Addr) (c:Nat),vs[i]? =some (.slice a b.length c)∧lu b.length c∧aj F w a b.length (b.map bv)
theorem BytesAt.move {F F':Nat→Prop} {w w':World} {a:Option Addr} {bs:List (List UInt8)} (h:BytesAt F w a bs) (hs:w.heap.size≤w'.heap.size) (hk:∀b,F b→b<w.heap.size→F' b∧w'.heap[b]? =w.heap[b]?):BytesAt F' w' a bs:=by
 obtain⟨vs,h1,h2⟩:=h
 refine⟨vs,h1.move hs hk,fun i b hb=> ?_⟩
 obtain⟨a,c,h3,h4,h5⟩:=h2 i b hb
 exact⟨a,c,h3,h4,h5.move hs hk⟩
def sl (a:Option Addr) (n c:Nat):Value:= .slice a n c
def Base (a:Option Addr) (c:Nat):Prop:=(a=none∧c=0)∨∃b,a=some ⟨b,0,none⟩
def Off (F:Nat→Prop) (r:Nat):Nat→Prop:=fun b=>F b∧b≠r
structure fQ (F:Nat→Prop) (w:World) (r:Nat) (T:aF) (D:List (List UInt8)) (E:List iM):Prop where
 head:∃aN cN aD cD aE cE,w.heap[r]? =some (.cells #[.slice aN T.length cN, .slice aD D.length cD, .slice aE E.length cE] 97 (0,0))∧T.length≤cN∧D.length≤cD∧E.length≤cE∧
  aj (Off F r) w aN (T.length*6) (T.flatMap dx)∧BytesAt (Off F r) w aD D∧aj (Off F r) w aE (E.length*3) (E.flatMap dX)∧Base aE cE
 own:F r
 low:∀b,F b→b<w.heap.size
abbrev gW (F:Nat→Prop) (w:World) (r:Nat) (T:aF):Prop:=fQ F w r T (T.map fun q=>q.2.b) (aU T)
theorem fQ.keeps {F fp:Nat→Prop} {w w':World} {r:Nat} {T:aF} {D:List (List UInt8)} {E:List iM} (h:fQ F w r T D E) (hK:Keeps fp w w') (hn:∀b,F b→¬fp b):fQ F w' r T D E:=by
 have hk:∀b,Off F r b→b<w.heap.size→Off F r b∧w'.heap[b]? =w.heap[b]? :=fun b hb hbw=>⟨hb,hK.block b hbw (hn b hb.1)⟩
 obtain⟨aN,cN,aD,cD,aE,cE,h1,h2,h3,h4,h8,h9,h10,h11⟩:=h.head
 exact⟨⟨aN,cN,aD,cD,aE,cE,(hK.block r (h.low r h.own) (hn r h.own)).trans h1,h2,h3,h4,h8.move hK.size hk,h9.move hK.size hk,h10.move hK.size hk,h11⟩,h.own,fun b hb=>Nat.lt_of_lt_of_le (h.low b hb) hK.size⟩
theorem fQ.below {F:Nat→Prop} {w w':World} {B r:Nat} {T:aF} {D:List (List UInt8)} {E:List iM} (h:fQ F w r T D E) (hb:Below B w w') (hB:w.heap.size≤B):fQ F w' r T D E:=
 h.keeps (fp:=fun x=>B≤x) (Keeps.below hb) fun x hx hf=>by have:=h.low x hx;omega
theorem fu (q:Int×bA):(dx q).length=6:=rfl
theorem iw (e:iM):(dX e).length=3:=rfl
theorem aj.wide {α:Type} {F:Nat→Prop} {w:World} {a:Option Addr} {n k:Nat} {f:α→List Value} {L:List α} (h:aj F w a (n*k) (L.flatMap f)) (hk:∀x,(f x).length=k) (hn:L.length=n) {i:Nat} {x:α} (hx:L[i]? =some x) (hk0:0<k):
  ∃b off,a=some ⟨b,off,none⟩∧F b∧b<w.heap.size∧i<n∧∀j,j<k→w.cell? ⟨b,off+i*k+j,none⟩=(f x)[j]? :=by
 have hi:i<n:=by rw[←hn];exact(List.getElem?_eq_some_iff.1 hx).1
 have hik:i*k+k≤n*k:=by rw[←Nat.succ_mul];exact Nat.mul_le_mul_right k hi
 obtain⟨b,off,e,hF,hb,hc⟩:=h.at_ (by omega)
 refine⟨b,off,e,hF,hb,hi,fun j hj=> ?_⟩
 rw[Nat.add_assoc,hc (i*k+j) (by omega),flat_get f k hk L i j x hx hj]
section
variable {F:Nat→Prop} {r:Nat} {T:aF} {D:List (List UInt8)} {E:List iM}
def nu (id:Int) (q:Int×bA):Bool:=decide (q.1=id)
set_option maxHeartbeats 1000000 in
theorem uJ (id:Int) (w:World) (h:fQ F w r T D E) (hl:T.length≤64):Calls Tryz.prog 75 #[ptr r, .int .i64 id] w fun e w'=>e= .returned (.int .i64 (nH (nu id) T))∧w=w':=by
 obtain⟨aN,cN,aD,cD,aE,cE,h1,-,-,-,hN,-,-,-⟩:=h.head
 have hr0:=h.low r h.own
 have hc0:w.cell? ⟨r,0,none⟩=some (.slice aN T.length cN):=by simp[World.cell?,h1]
 have HN:=Lib.hid hN
 obtain⟨n,hn⟩:∃n,n=T.length:=⟨_,rfl⟩
 rw[←hn]at hc0 hl HN
 have HL:=Lib.hid hn
 clear h h1 hN hn
 go_enter Tryz.func75,Tryz.ntmps75
 go_wp2
 go_loop [5] (fun i=>∃k:Nat,k≤n∧i= .int .i64 k∧(T.take k).any (nu id)=false) (fun i=>n-(intOf i).toNat)
 case atStart=>exact⟨0,by omega,rfl,by simp⟩
 case round=>
  obtain⟨k,hk,rfl,hany⟩:=hrel
  have HA:=Lib.hid hany
  clear hany
  by_cases hlt:k<n
  ·have hx:T[k]? =some (T[k]'(by have:=HL.out;omega)):=List.getElem?_eq_getElem _
   obtain⟨q,hq⟩:∃q,q=T[k]'(by have:=HL.out;omega):=⟨_,rfl⟩
   rw[←hq]at hx
   have HX:=Lib.hid hx
   obtain⟨b,off,rfl,hF,hb,hi,hc⟩:=HN.out.wide fu HL.out.symm hx (by omega)
   have c0:w.cell? ⟨b,off+k*6,none⟩=some (.int .i64 q.1):=hc 0 (by omega)
   clear hx hq hc
   have i0:(0:Int)≤k:=by omega
   have i1:(k:Int)<n:=by omega
   by_cases hp:q.1=id
   ·have hpp:(q.1==id)=true:=by simpa using hp
    have HP:Hid (nu id q=true):=by show nu id q=true;simp[nu,hp]
    clear hp
    go_wp2
    go_ret
    exact⟨fK (vw HA.out HX.out HP.out).symm,rfl⟩
   ·have hpp:(q.1==id)=false:=by simpa using hp
    have HP:Hid (nu id q=false):=by show nu id q=false;simp[nu,hp]
    clear hp
    go_wp2
    go_round
    case rel=>exact⟨k+1,by omega,by go_num,any_take_succ HA.out HX.out HP.out⟩
    case measure=>simp[intOf];omega
  ·go_wp2
   go_ret
   exact⟨fK (mD (by have:=HA.out;rwa [List.take_of_length_le (by have:=HL.out;omega)]at this)).symm,rfl⟩
end
theorem yO {T:aF} {id:Int} (h:ah id T=none):nH (nu id) T= -1:=by
 refine mD ?_
 rw[List.any_eq_false]
 intro q hq
 have:=iq.1 h q hq
 simpa[nu]using this
theorem jr {T:aF} (hs:aI gH T) {id:Int} {x:bA} (h:ah id T=some x):∃k:Nat,nH (nu id) T=k∧T[k]? =some (id,x):=by
 cases hf:T.findIdx? (nu id)with
 |none=>
  rw[List.findIdx?_eq_none_iff]at hf
  have:=hf _ (bq h)
  simp[nu]at this
 |some k=>
  refine⟨k,by simp[nH,hf],?_⟩
  rw[List.findIdx?_eq_some_iff_getElem]at hf
  obtain⟨hk,hp,_⟩:=hf
  have h1:T[k]? =some T[k]:=List.getElem?_eq_getElem hk
  have h2:T[k].1=id:=by simpa[nu]using hp
  have h3:=aL bW hs (List.getElem_mem hk)
  rw[h2,h]at h3
  rw[h1]
  congr 1
  exact Prod.ext h2 (Option.some.inj h3).symm
def gB (d:Int) (n:Nm) (e:iM):Bool:=decide (e.1=d∧e.2.1=n)
section
variable {F:Nat→Prop} {r:Nat} {T:aF} {D:List (List UInt8)} {E:List iM}
theorem fQ.node {w:World} (h:fQ F w r T D E) {k:Nat} {q:Int×bA} (hq:T[k]? =some q):∃b off c,w.cell? ⟨r,0,none⟩=some (.slice (some ⟨b,off,none⟩) T.length c)∧Off F r b∧b<w.heap.size∧k<T.length∧w.cell? ⟨b,off+k*6,none⟩=some (.int .i64 q.1)∧w.cell? ⟨b,off+k*6+1,none⟩=some (.int .i64 q.2.kind)∧w.cell? ⟨b,off+k*6+2,none⟩=some (.int .i64 q.2.links)∧w.cell? ⟨b,off+k*6+3,none⟩=some (.int .i64 q.2.b.length)∧w.cell? ⟨b,off+k*6+4,none⟩=some (.int .u64 q.2.aO)∧w.cell? ⟨b,off+k*6+5,none⟩=some (.bool q.2.closed):=by
 obtain⟨aN,cN,aD,cD,aE,cE,h1,-,-,-,hN,-,-,-⟩:=h.head
 obtain⟨b,off,rfl,hF,hb,hi,hc⟩:=hN.wide fu rfl hq (by omega)
 exact⟨b,off,cN,by simp[World.cell?,h1],hF,hb,hi,hc 0 (by omega),hc 1 (by omega),hc 2 (by omega),hc 3 (by omega),hc 4 (by omega),hc 5 (by omega)⟩
theorem fQ.data {w:World} (h:fQ F w r T D E) {k:Nat} {d:List UInt8} (hq:D[k]? =some d):∃b off c a c',w.cell? ⟨r,1,none⟩=some (.slice (some ⟨b,off,none⟩) D.length c)∧Off F r b∧b<w.heap.size∧w.cell? ⟨b,off+k,none⟩=some (.slice a d.length c')∧lu d.length c'∧aj (Off F r) w a d.length (d.map bv):=by
 obtain⟨aN,cN,aD,cD,aE,cE,h1,-,-,-,-,hD,-,-⟩:=h.head
 obtain⟨vs,hv,hrow⟩:=hD
 have hk:k<D.length:=(List.getElem?_eq_some_iff.1 hq).1
 obtain⟨b,off,rfl,hF,hb,hc⟩:=hv.at_ (by omega)
 obtain⟨a,c',h3,h4,h5⟩:=hrow k d hq
 exact⟨b,off,cD,a,c',by simp[World.cell?,h1],hF,hb,by rw[hc k hk];exact h3,h4,h5⟩
theorem fQ.ent {w:World} (h:fQ F w r T D E):∃a c,w.cell? ⟨r,2,none⟩=some (.slice a E.length c)∧E.length≤c∧aj (Off F r) w a (E.length*3) (E.flatMap dX)∧Base a c:=by
 obtain⟨aN,cN,aD,cD,aE,cE,h1,-,-,h4,-,-,hE,hz⟩:=h.head
 exact⟨aE,cE,by simp[World.cell?,h1],h4,hE,hz⟩
theorem fQ.nodes {w:World} (h:fQ F w r T D E):∃a c,w.cell? ⟨r,0,none⟩=some (.slice a T.length c)∧T.length≤c:=by
 obtain⟨aN,cN,aD,cD,aE,cE,h1,h4,-,-,-,-,-,-⟩:=h.head
 exact⟨aN,cN,by simp[World.cell?,h1],h4⟩
set_option maxHeartbeats 1000000 in
theorem jP (id:Int) (w:World) (h:fQ F w r T D E) (hT:rz T):Calls Tryz.prog 84 #[ptr r, .int .i64 id] w fun e w'=>e= .returned (.tuple #[iD T id, .bool (ah id T).isSome])∧Below w.heap.size w w':=by
 have hlen:=hT.len
 have HR:=Lib.hid (fun o=>uJ id (w.alloc o) (h.below (wall w o) (Nat.le_refl _)) hlen)
 have hr0:=h.low r h.own
 unfold iD
 cases hx:ah id T with
 |none=>
  rw[yO hx]at HR
  clear h hx hT
  go_enter Tryz.func84,Tryz.ntmps84
  go_wp2_with fail
  (with_reducible refine(HR.out _).mono ?_)
  rintro e w1 ⟨rfl,rfl⟩
  go_wp2_with fail
  exact bodyPost_ret (v:= .tuple #[.agg #[.int .i64 0, .int .i64 0, .int .i64 0, .int .i64 0, .int .u64 0, .bool false], .bool false]) (by simp[results,Tryz.results84,go_sem]) rfl ⟨rfl,wall w _⟩
 |some x=>
  obtain⟨k,hk,hq⟩:=jr hT.sorted hx
  rw[hk]at HR
  obtain⟨b,off,c,hc0,hF,hb,hkl,c0,c1,c2,c3,c4,c5⟩:=h.node hq
  have i0:(0:Int)≤k:=by omega
  have i1:(k:Int)<T.length:=by omega
  have i2:¬(k:Int)<0:=by omega
  simp only at c0 c1 c2 c3 c4 c5
  clear h hx hk hq hT
  unfold iJ
  go_enter Tryz.func84,Tryz.ntmps84
  go_wp2_with fail
  (with_reducible refine(HR.out _).mono ?_)
  rintro e w1 ⟨rfl,rfl⟩
  go_wp2_with fail
  exact bodyPost_ret (v:= .tuple #[.agg #[.int .i64 id, .int .i64 x.kind, .int .i64 x.links, .int .i64 x.b.length, .int .u64 x.aO, .bool x.closed], .bool true]) (by simp[results,Tryz.results84,go_sem]) rfl ⟨rfl,wall w _⟩
set_option maxHeartbeats 1000000 in
theorem iW (d:Int) (nm:Nm) (w:World) (h:fQ F w r T D E) (hl:E.length≤1000000):Calls Tryz.prog 74 #[ptr r, .int .i64 d, .string (strOf nm)] w fun e w'=>e= .returned (.int .i64 (nH (gB d nm) E))∧w=w':=by
 obtain⟨aE,cE,hc0,-,hE,-⟩:=h.ent
 have hr0:=h.low r h.own
 have HN:=Lib.hid hE
 obtain⟨n,hn⟩:∃n,n=E.length:=⟨_,rfl⟩
 rw[←hn]at hc0 hl HN
 have HL:=Lib.hid hn
 clear h hE hn
 go_enter Tryz.func74,Tryz.ntmps74
 go_wp2
 go_loop [7] (fun i=>∃k:Nat,k≤n∧i= .int .i64 k∧(E.take k).any (gB d nm)=false) (fun i=>n-(intOf i).toNat)
 case atStart=>exact⟨0,by omega,rfl,by simp⟩
 case round=>
  obtain⟨k,hk,rfl,hany⟩:=hrel
  have HA:=Lib.hid hany
  clear hany
  by_cases hlt:k<n
  ·have hx:E[k]? =some (E[k]'(by have:=HL.out;omega)):=List.getElem?_eq_getElem _
   obtain⟨q,hq⟩:∃q,q=E[k]'(by have:=HL.out;omega):=⟨_,rfl⟩
   rw[←hq]at hx
   have HX:=Lib.hid hx
   obtain⟨b,off,rfl,hF,hb,hi,hc⟩:=HN.out.wide iw HL.out.symm hx (by omega)
   have c0:w.cell? ⟨b,off+k*3,none⟩=some (.int .i64 q.1):=hc 0 (by omega)
   have c1:w.cell? ⟨b,off+k*3+1,none⟩=some (.string (strOf q.2.1)):=hc 1 (by omega)
   clear hx hq hc
   have i0:(0:Int)≤k:=by omega
   have i1:(k:Int)<n:=by omega
   by_cases hp:q.1=d
   ·have hpp:(q.1==d)=true:=by simpa using hp
    by_cases hp2:q.2.1=nm
    ·have HP:Hid (gB d nm q=true):=by show gB d nm q=true;simp[gB,hp,hp2]
     rw[hp2]at c1
     clear hp hp2
     go_wp2
     go_ret
     exact⟨fK (vw HA.out HX.out HP.out).symm,rfl⟩
    ·have HP:Hid (gB d nm q=false):=by show gB d nm q=false;simp[gB,hp,hp2]
     obtain⟨hs1,hs2⟩:=KW hp2
     clear hp hp2
     go_wp2
     go_round
     case rel=>exact⟨k+1,by omega,by go_num,any_take_succ HA.out HX.out HP.out⟩
     case measure=>simp[intOf];omega
   ·have hpp:(q.1==d)=false:=by simpa using hp
    have HP:Hid (gB d nm q=false):=by show gB d nm q=false;simp[gB,hp]
    clear hp
    go_wp2
    go_round
    case rel=>exact⟨k+1,by omega,by go_num,any_take_succ HA.out HX.out HP.out⟩
    case measure=>simp[intOf];omega
  ·go_wp2
   go_ret
   exact⟨fK (mD (by have:=HA.out;rwa [List.take_of_length_le (by have:=HL.out;omega)]at this)).symm,rfl⟩
end
theorem r_ {α:Type} {l l':List α} {k:Nat} {x y:α} (hx:l[k]? =some x) (hy:l'[k]? =some y) (h:x≠y):l≠l':=by
 intro e;rw[e,hy]at hx;exact h (Option.some.inj hx).symm
theorem uK {α:Type} {l l':List α} {k:Nat} {x:α} (h:l.take k=l'.take k) (hx:l[k]? =some x) (hy:l'[k]? =some x):l.take (k+1)=l'.take (k+1):=by
 rw[List.take_add_one,List.take_add_one,h,hx,hy]
theorem Bc {x y:ByteArray} (h:x≠y):(x.toList==y.toList)=false:=by
 rw[beq_eq_false_iff_ne,ByteArray.toList_eq,ByteArray.toList_eq]
 intro e
 exact h (WideShapes.bytes_inj e)
theorem Mt (s:ByteArray) (k:Nat) (h:k<s.size):s[k]=s.data.toList.getD k 0:=by
 have h2:k<s.data.toList.length:=by simpa using h
 simp only[List.getD,List.getElem?_eq_getElem h2,Option.getD_some]
 rfl
set_option maxHeartbeats 1000000 in
theorem JA (s:ByteArray) (w:World) (hs:s.size≤maxLen):
  Calls Tryz.prog 136 #[.string s] w fun e w'=>e= .returned (.bool (bV s.data.toList))∧Below w.heap.size w w':=by
 unfold maxLen at hs
 have hb:=Below.refl w.heap.size w
 go_enter Tryz.func136,Tryz.ntmps136
 go_wp2
 go_loop [3] (fun i=>∃k:Nat,k≤s.size∧i= .int .i64 k∧(s.data.toList.take k).all gL=true) (fun i=>s.size-(intOf i).toNat)
 case atStart=>exact⟨0,by omega,rfl,rfl⟩
 case round=>
  obtain⟨k,hk,rfl,ha⟩:=hrel
  have HA:=Lib.hid ha
  clear ha
  by_cases hlt:k<s.size
  ·obtain⟨c,hcc⟩:∃c,c=s.data.toList.getD k 0:=⟨_,rfl⟩
   have hix:=Mt s k hlt
   rw[←hcc]at hix
   have hsn:=C_ gL s.data.toList k (by simpa using hlt)
   rw[←hcc]at hsn
   have HS:=Lib.hid hsn
   have HG:Hid (gL c=false→bV s.data.toList=false):=fun h=>by
    have:=Da gL s.data.toList k (by simpa using hlt)
    rw[←hcc]at this
    simp[bV,this h]
   clear hsn hcc
   have hbd:=Hr c
   rcases Hq c with⟨ho,h1,h2⟩|⟨ho,h1,h2,h3⟩|⟨ho,h1⟩|⟨ho,h1⟩|⟨ho,h1⟩|⟨ho,h1,h2,h3,h4,h5,h6⟩|⟨ho,h1,h2,h3,h4,h5,h6⟩|⟨ho,h1,h2,h3,h4,h5⟩
   iterate 5
    ·have HO:=Lib.hid ho
     clear ho HG
     go_wp2
     go_round
     case rel=>exact⟨k+1,by omega,by go_num,by rw[HS.out,HA.out,HO.out];rfl⟩
     case measure=>simp[intOf];omega
   iterate 3
    ·have HO:=Lib.hid ho
     clear ho
     go_wp2
     go_ret
     exact⟨fC (HG.out HO.out).symm,hb⟩
  ·have hk':k=s.size:=by omega
   have HA2:s.data.toList.all gL=true:=by
    have:=HA.out
    rw[hk',List.take_of_length_le (by simp)]at this
    exact this
   have hl:s.data.toList.length=s.size:=by simp
   have he:=ByteArray.toList_eq s
   have ways:(s.toList=[]∧s.toList.isEmpty=true∧bV s.data.toList=false)∨
     (¬s.toList=[]∧s.toList.isEmpty=false∧16<s.size∧bV s.data.toList=false)∨
     (¬s.toList=[]∧s.toList.isEmpty=false∧s.size≤16∧s.toList=[46]∧(s.toList==[46])=true∧bV s.data.toList=false)∨
     (¬s.toList=[]∧s.toList.isEmpty=false∧s.size≤16∧¬s.toList=[46]∧(s.toList==[46])=false∧s.toList=[46,46]∧(s.toList==[46,46])=true∧bV s.data.toList=false)∨
     (¬s.toList=[]∧s.toList.isEmpty=false∧s.size≤16∧¬s.toList=[46]∧(s.toList==[46])=false∧¬s.toList=[46,46]∧(s.toList==[46,46])=false∧bV s.data.toList=true):=by
    rw[he]
    generalize s.data.toList=l at HA2 hl
    rw[←hl]
    exact Aj l HA2
   have hz1:Hid (s.toList=[]→s.size<1):=fun h=>by rw[he]at h;rw[h]at hl;simp at hl;omega
   have hz2:Hid (¬s.toList=[]→1≤s.size):=fun h=>by
    rw[he]at h
    have:=List.length_pos_iff.2 h
    omega
   clear HA2 hl he HA hk'
   rcases ways with⟨h1,h2,hg⟩|⟨h1,h2,h3,hg⟩|⟨h1,h2,h3,h4,h5,hg⟩|⟨h1,h2,h3,h4,h5,h6,h7,hg⟩|⟨h1,h2,h3,h4,h5,h6,h7,hg⟩
   ·have hz:=hz1.out h1
    have HG:=Lib.hid hg
    clear hg
    go_wp2
    go_ret
    exact⟨fC HG.out.symm,hb⟩
   all_goals
    have hz:=hz2.out h1
    have HG:=Lib.hid hg
    clear hg
    go_wp2
    go_ret
    exact⟨fC HG.out.symm,hb⟩
theorem D9 {S S':Nat→Prop} (a a':Option Addr) (len cap len' cap':Nat) (ss ss':List ByteArray) (w:World) (h:aP S w a len ss) (h':aP S' w a' len' ss'):
  Calls Tryz.prog 150 #[.slice a len cap, .slice a' len' cap'] w fun e w'=>e= .returned (.bool (jG ss ss'))∧Below w.heap.size w w':=by
 have hl:=h.length
 have hl':=h'.length
 have hm:=h.row.small
 have hm':=h'.row.small
 unfold maxLen at hm hm'
 by_cases hle:len'≤len
 ·have HL:=Lib.hid hl
  have Uo:=Lib.hid hl'
  clear hl hl'
  go_enter Tryz.func150,Tryz.ntmps150
  go_wp2
  go_loopw [5] (fun i wr=>∃k:Nat,k≤len'∧i= .int .i64 k∧ss.take k=ss'.take k∧Below w.heap.size w wr) (fun i _=>len'-(intOf i).toNat)
  case atStart=>exact⟨0,by omega,rfl,rfl,Below.refl _ _⟩
  case round=>
   obtain⟨k,hk,rfl,ht,hb⟩:=hrel
   have HT:=Lib.hid ht
   clear ht
   by_cases hlt:k<len'
   ·obtain⟨b,off,x,rfl,_,_,hx,_,hc⟩:=(h.below hb (Nat.le_refl _)).cell k (by omega)
    obtain⟨b',off',y,rfl,_,_,hy,_,hc'⟩:=(h'.below hb (Nat.le_refl _)).cell k hlt
    have HX:=Lib.hid hx
    have HY:=Lib.hid hy
    clear hx hy h h'
    have hk0:(0:Int)≤(k:Int):=by omega
    have hk1:(k:Int)<(len:Int):=by omega
    have hk2:(k:Int)<(len':Int):=by omega
    by_cases hxy:x=y
    ·subst hxy
     go_wp2
     go_quiet (fail)
     go_wp2
     go_roundw
     case rel=>exact⟨k+1,by omega,by go_num,uK HT.out HX.out HY.out,hb.trans ⟨rfl,rfl,rfl,Nat.le_refl _,fun _ _=>rfl⟩⟩
     case measure=>simp[intOf];omega
    ·have hxl:=Bc hxy
     have HN:=Lib.hid hxy
     clear hxy
     go_wp2
     go_quiet (fail)
     go_wp2
     go_ret
     refine⟨fC ?_,hb.trans ⟨rfl,rfl,rfl,Nat.le_refl _,fun _ _=>rfl⟩⟩
     symm
     unfold jG
     rw[decide_eq_false_iff_not]
     refine r_ (k:=k) ?_ HY.out HN.out
     rw[List.getElem?_take,if_pos (by have:=Uo.out;omega)]
     exact HX.out
   ·have hk':k=len':=by omega
    have HK:=Lib.hid hk'
    clear hk'
    go_wp2
    go_ret
    refine⟨fC ?_,hb⟩
    have:=HT.out
    rw[HK.out]at this
    unfold jG
    rw[Uo.out,this,List.take_of_length_le (by have:=Uo.out;omega)]
    simp
 ·have hp:jG ss ss'=false:=by
   unfold jG
   rw[decide_eq_false_iff_not]
   intro hh
   have:=congrArg List.length hh
   simp at this
   omega
  have HP:=Lib.hid hp
  clear hp hl hl'
  go_enter Tryz.func150,Tryz.ntmps150
  go_wp2
  go_ret
  exact⟨fC HP.out.symm,Below.refl _ _⟩
theorem jw {T:aF} (hs:aI gH T) {e:iM}:e∈aU T↔∃x,ah e.1 T=some x∧e.2∈x.names:=by
 unfold aU
 rw[List.mem_flatMap]
 constructor
 ·rintro ⟨q,hq,he⟩
  obtain⟨y,hy,rfl⟩:=List.mem_map.1 he
  exact⟨q.2,aL bW hs hq,hy⟩
 ·rintro ⟨x,hx,he⟩
  exact⟨(e.1,x),bq hx,List.mem_map.2 ⟨e.2,he,rfl⟩⟩
theorem qM {T:aF} (hs:aI gH T) {id:Int} {x:bA} {nm:Nm} (hx:ah id T=some x) (hn:ah nm x.names=none):nH (gB id nm) (aU T)= -1:=by
 refine mD ?_
 rw[List.any_eq_false]
 intro e he h
 obtain⟨y,hy,hm⟩:=(jw hs).1 he
 simp only[gB,decide_eq_true_eq]at h
 rw[h.1,hx]at hy
 cases hy
 exact iq.1 hn _ hm h.2
theorem om {T:aF} (hT:rz T) {id j:Int} {x:bA} {nm:Nm} (hx:ah id T=some x) (hn:ah nm x.names=some j):∃k:Nat,nH (gB id nm) (aU T)=k∧(aU T)[k]? =some (id,nm,j):=by
 have hmem:((id,nm,j):iM)∈aU T:=(jw hT.sorted).2 ⟨x,hx,bq hn⟩
 cases hf:(aU T).findIdx? (gB id nm)with
 |none=>
  rw[List.findIdx?_eq_none_iff]at hf
  have:=hf _ hmem
  simp[gB]at this
 |some k=>
  refine⟨k,by simp[nH,hf],?_⟩
  rw[List.findIdx?_eq_some_iff_getElem]at hf
  obtain⟨hk,hp,_⟩:=hf
  have h1:(aU T)[k]? =some (aU T)[k]:=List.getElem?_eq_getElem hk
  obtain⟨e,he⟩:∃e,e=(aU T)[k]:=⟨_,rfl⟩
  have hm:=List.getElem_mem hk
  rw[←he]at h1 hp hm
  simp only[gB,decide_eq_true_eq]at hp
  obtain⟨y,hy,hm2⟩:=(jw hT.sorted).1 hm
  rw[hp.1,hx]at hy
  cases hy
  have h3:=aL nk (hT.each id x hx).sorted hm2
  rw[hp.2,hn]at h3
  rw[h1]
  congr 1
  exact Prod.ext hp.1 (Prod.ext hp.2 (Option.some.inj h3).symm)
theorem yP {S:Nat→Prop} {w:World} {a:Option Addr} {n:Nat} {ls:List Nm} (h:aP S w a n (ls.map strOf)) (k:Nat) (hk:k<n):∃b off nm,a=some ⟨b,off,none⟩∧S b∧b<w.heap.size∧ls[k]? =some nm∧nm.length≤maxLen∧w.cell? ⟨b,off+k,none⟩=some (.string (strOf nm)):=by
 obtain⟨b,off,s,e,hS,hb,hs,hsz,hc⟩:=h.cell k hk
 rw[List.getElem?_map]at hs
 cases hq:ls[k]? with
 |none=>rw[hq]at hs;cases hs
 |some nm=>
  rw[hq]at hs
  have:strOf nm=s:=by simpa using hs
  subst this
  rw[eT]at hsz
  exact⟨b,off,nm,e,hS,hb,rfl,hsz,hc⟩
theorem JB {ls:List Nm} (h:ls.any (fun x=> !bV x)=true):bK ls=12:=by unfold bK;rw[if_pos h]
theorem Mv {ls:List Nm} (h:ls.any (fun x=> !bV x)=false):bK ls=if 8<ls.length then 3 else 0:=by unfold bK;rw[if_neg (by rw[h];decide)]
set_option maxHeartbeats 1000000 in
theorem pz {S:Nat→Prop} (a:Option Addr) (n c:Nat) (ls:List Nm) (w:World) (hS:aP S w a n (ls.map strOf)):
  Calls Tryz.prog 72 #[.slice a n c] w fun e w'=>e= .returned (.int .i64 (bK ls))∧Below w.heap.size w w':=by
 have hln:ls.length=n:=by have:=hS.length;simpa using this
 have hnm:=hS.row.small
 unfold maxLen at hnm
 have HS:=Lib.hid (fun w1 (hb:Below w.heap.size w w1)=>hS.below hb (Nat.le_refl _))
 have HL:=Lib.hid hln
 clear hS hln
 go_enter Tryz.func72,Tryz.ntmps72
 go_wp2
 go_loopw [3] (fun i wr=>∃k:Nat,k≤n∧i= .int .i64 k∧(ls.take k).any (fun x=> !bV x)=false∧Below w.heap.size w wr) (fun i _=>n-(intOf i).toNat)
 case atStart=>exact⟨0,by omega,rfl,by simp,Below.refl _ _⟩
 case round=>
  obtain⟨k,hk,rfl,hany,hB⟩:=hrel
  have HA:=Lib.hid hany
  have HB:=Lib.hid hB
  clear hany hB
  by_cases hlt:k<n
  ·obtain⟨b,off,nm,rfl,_,hbw,hx,hsz,hc⟩:=yP (HS.out wr HB.out) k hlt
   have HX:=Lib.hid hx
   have HG:=Lib.hid (JA (strOf nm) wr (by rw[eT];exact hsz))
   have e0:(strOf nm).data.toList=nm:=by simp[strOf]
   rw[e0]at HG
   clear hx hsz e0
   have i0:(0:Int)≤k:=by omega
   have i1:(k:Int)<n:=by omega
   cases hp:bV nm with
   |true=>
    rw[hp]at HG
    have HP:Hid ((fun x:Nm=> !bV x) nm=false):=by show(!bV nm)=false;rw[hp];rfl
    clear hp
    go_wp2_with fail
    (with_reducible refine HG.out.mono ?_)
    rintro e w1 ⟨rfl,hb1⟩
    go_wp2_with fail
    go_roundw
    case rel=>exact⟨k+1,by omega,by go_num,any_take_succ HA.out HX.out HP.out,HB.out.trans (hb1.mono HB.out.size)⟩
    case measure=>simp[intOf];omega
   |false=>
    rw[hp]at HG
    have HP:Hid (ls.any (fun x=> !bV x)=true):=by
     show ls.any _=true
     rw[List.any_eq_true]
     exact⟨nm,List.mem_of_getElem? HX.out,by rw[hp];rfl⟩
    clear hp
    go_wp2_with fail
    (with_reducible refine HG.out.mono ?_)
    rintro e w1 ⟨rfl,hb1⟩
    go_wp2_with fail
    go_ret
    exact⟨fK (JB HP.out).symm,HB.out.trans (hb1.mono HB.out.size)⟩
  ·have HF:Hid (bK ls=if 8<n then 3 else 0):=by
    have:=HA.out
    rw[List.take_of_length_le (by have:=HL.out;omega)]at this
    have h2:=Mv this
    rw[HL.out]at h2
    exact h2
   by_cases h8:8<n
   ·have hd:decide ((8:Int)<(n:Int))=true:=by simp only[decide_eq_true_eq];omega
    rw[if_pos h8]at HF
    clear h8
    go_wp2
    go_ret
    exact⟨fK HF.out.symm,HB.out⟩
   ·have hd:decide ((8:Int)<(n:Int))=false:=by simp only[decide_eq_false_iff_not];omega
    rw[if_neg h8]at HF
    clear h8
    go_wp2
    go_ret
    exact⟨fK HF.out.symm,HB.out⟩
section
variable {F:Nat→Prop} {r:Nat} {T:aF}
set_option maxHeartbeats 2000000 in
theorem rJ {S:Nat→Prop} (a:Option Addr) (n c:Nat) (ls:List Nm) (w:World) (h:gW F w r T) (hT:fB T) (hE:(aU T).length≤1000000) (hS:aP S w a n (ls.map strOf)):
  Calls Tryz.prog 137 #[ptr r, .slice a n c] w fun e w'=>e= .returned (.tuple #[.int .i64 (aA T 0 ls).1, .int .i64 (aA T 0 ls).2])∧Below w.heap.size w w':=by
 have hln:ls.length=n:=by have:=hS.length;simpa using this
 have hnm:=hS.row.small
 unfold maxLen at hnm
 have HS:=Lib.hid (fun w1 (hb:Below w.heap.size w w1)=>hS.below hb (Nat.le_refl _))
 have HH:=Lib.hid (fun w1 (hb:Below w.heap.size w w1)=>h.below hb (Nat.le_refl _))
 have hr0:=h.low r h.own
 have HT:=Lib.hid hT
 have HL:=Lib.hid hln
 have HE:=Lib.hid hE
 clear hS hln h hT hE
 go_enter Tryz.func137,Tryz.ntmps137
 go_wp2
 go_loopw [6,7] (fun s i wr=>∃(k:Nat) (id:Int),k≤n∧i= .int .i64 k∧s= .int .i64 id∧(ah id T).isSome=true∧aA T id (ls.drop k)=aA T 0 ls∧Below w.heap.size w wr) (fun _ i _=>n-(intOf i).toNat)
 case atStart=>exact⟨0,0,by omega,rfl,rfl,dH HT.out,by simp,Below.refl _ _⟩
 case round=>
  obtain⟨k,id,hk,rfl,rfl,hid,hlk,hB⟩:=hrel
  obtain⟨x,hx⟩:=Option.isSome_iff_exists.1 hid
  have lJ:=Lib.hid hlk
  have HX:=Lib.hid hx
  have HB:=Lib.hid hB
  have HSZ:=Lib.hid hB.size
  clear hlk hid hx hB
  by_cases hlt:k<n
  ·obtain⟨b,off,nm,rfl,_,hbw,hn,hsz,hc⟩:=yP (HS.out wr HB.out) k hlt
   have HN:=Lib.hid hn
   have vg:=Lib.hid (jP id wr (HH.out wr HB.out) HT.out.torz)
   have hnd:iD T id=iJ id x:=by unfold iD;rw[HX.out]
   rw[hnd]at vg
   unfold iJ at vg
   have i0:(0:Int)≤k:=by omega
   have i1:(k:Int)<n:=by omega
   clear hn hnd hsz
   by_cases hk2:x.kind=2
   ·rw[hk2]at vg
    cases hj:ah nm x.names with
    |none=>
     have hfin:=Lib.hid (xY HX.out hk2 HN.out hj)
     have Gc:=Lib.hid (fun w1 (hb:Below w.heap.size w w1)=>iW id nm w1 (HH.out w1 hb) HE.out)
     rw[qM HT.out.sorted HX.out hj]at Gc
     clear hj hk2
     go_wp2_with fail
     (with_reducible refine vg.out.mono ?_)
     rintro e w1 ⟨rfl,hb1⟩
     have HB1:=Lib.hid (HB.out.trans (hb1.mono HB.out.size))
     have hcb:b<w1.heap.size:=Nat.lt_of_lt_of_le hbw hb1.size
     have hc1:w1.cell? ⟨b,off+k,none⟩=some (.string (strOf nm)):=by rw[hb1.cell (p:=⟨b,off+k,none⟩) hbw];exact hc
     have hr1:r<w1.heap.size:=Nat.lt_of_lt_of_le hr0 HB1.out.size
     clear hb1
     go_wp2_with fail
     (with_reducible refine(Gc.out _ (HB1.out.trans ((wall w1 _).mono HB1.out.size))).mono ?_)
     rintro e w2 ⟨rfl,rfl⟩
     go_wp2_with fail
     go_ret2
     exact⟨nR (by rw[←lJ.out,hfin.out]),HB1.out.trans ((wall w1 _).mono HB1.out.size)⟩
    |some j=>
     have hfin:=Lib.hid (xW HX.out hk2 HN.out hj)
     have HJ:=Lib.hid ((HT.out.leads id x HX.out _ (bq hj)).1)
     have Gc:=Lib.hid (fun w1 (hb:Below w.heap.size w w1)=>iW id nm w1 (HH.out w1 hb) HE.out)
     obtain⟨m,hm1,hm2⟩:=om HT.out.torz HX.out hj
     rw[hm1]at Gc
     have FK:=Lib.hid hm2
     clear hj hk2 hm1 hm2
     go_wp2_with fail
     (with_reducible refine vg.out.mono ?_)
     rintro e w1 ⟨rfl,hb1⟩
     have HB1:=Lib.hid (HB.out.trans (hb1.mono HB.out.size))
     have hcb:b<w1.heap.size:=Nat.lt_of_lt_of_le hbw hb1.size
     have hc1:w1.cell? ⟨b,off+k,none⟩=some (.string (strOf nm)):=by rw[hb1.cell (p:=⟨b,off+k,none⟩) hbw];exact hc
     have hr1:r<w1.heap.size:=Nat.lt_of_lt_of_le hr0 HB1.out.size
     obtain⟨aE,cE,q2,-,hrow,-⟩:=(HH.out w1 HB1.out).ent
     obtain⟨b2,off2,rfl,-,hb2,hml,hc2⟩:=hrow.wide iw rfl FK.out (by omega)
     have q3:w1.cell? ⟨b2,off2+m*3+2,none⟩=some (.int .i64 j):=hc2 2 (by omega)
     have m0:(0:Int)≤m:=by omega
     have m1:(m:Int)<(aU T).length:=by omega
     have m2:¬(m:Int)<0:=by omega
     clear hb1 hrow hc2
     go_wp2_with fail
     (with_reducible refine(Gc.out _ (HB1.out.trans ((wall w1 _).mono HB1.out.size))).mono ?_)
     rintro e w2 ⟨rfl,rfl⟩
     go_wp2_with fail
     go_roundw
     case rel=>exact⟨k+1,j,by omega,by go_num,rfl,HJ.out,by rw[←hfin.out];exact lJ.out,HB1.out.trans ((wall w1 _).mono HB1.out.size)⟩
     case measure=>simp[intOf];omega
   ·have e1:(x.kind==2)=false:=by simpa using hk2
    have e2:(x.kind !=2)=true:=by simpa using hk2
    have hfin:=Lib.hid (xX HX.out hk2 HN.out)
    clear hk2
    go_wp2_with fail
    (with_reducible refine vg.out.mono ?_)
    rintro e w1 ⟨rfl,hb1⟩
    have HB1:=Lib.hid (HB.out.trans (hb1.mono HB.out.size))
    clear hb1
    go_wp2_with fail
    go_ret2
    exact⟨nR (by rw[←lJ.out,hfin.out]),HB1.out.trans ((wall w1 _).mono HB1.out.size)⟩
  ·go_wp2
   go_ret2
   exact⟨nR (by rw[←lJ.out,List.drop_of_length_le (by have:=HL.out;omega)];rfl),HB.out⟩
end
theorem Ij:∀a b:List UInt8,Op.bytesLess a b=bytesBefore a b
 |[],[]=>rfl
 |[],_::_=>rfl
 |_::_,[]=>rfl
 |x::r,y::s=>by
  unfold Op.bytesLess bytesBefore
  rw[Ij r s]
def jQ (d:Int) (nm:Nm) (e:iM):Bool:=decide (e.1<d)||(decide (e.1=d)&&bytesBefore e.2.1 nm)
def nI (E:List iM) (d:Int) (nm:Nm) (id:Int):List iM:=E.takeWhile (jQ d nm)++(d,nm,id)::E.dropWhile (jQ d nm)
theorem sQ {α:Type} {p:α→Bool}:∀{l:List α} {k:Nat},(l.take k).all p=true→(∀x,l[k]? =some x→p x=false)→k≤l.length→l.takeWhile p=l.take k∧l.dropWhile p=l.drop k
 |[],k,_,_,hk=>by simp
 |y::r,0,_,h,_=>by
  have:=h y (by simp)
  simp[this]
 |y::r,k+1,ha,h,hk=>by
  simp only[List.take_succ_cons,List.all_cons,Bool.and_eq_true]at ha
  obtain⟨h1,h2⟩:=sQ (l:=r) (k:=k) ha.2 (fun x hx=>h x (by simpa using hx)) (by simpa using hk)
  simp[ha.1,h1,h2]
section
variable {κ α:Type} {lt:κ→κ→Bool}
theorem Cw (L:mI lt) (x:κ×α):∀(l:List (κ×α)),(∀p∈l,p.1≠x.1)→gK lt x l=l.takeWhile (fun y=>lt y.1 x.1)++x::l.dropWhile (fun y=>lt y.1 x.1)∨¬aI lt l
 |[],_=> .inl (by simp[gK])
 |y::r,hn=>by
  have hy:y.1≠x.1:=hn y (by simp)
  have no:∀a b,lt a b=true→lt b a=false:=fun a b h=>by
   cases h3:lt b a with
   |false=>rfl
   |true=>have:=L.trans _ _ _ h h3;rw[L.Wo]at this;cases this
  by_cases hs:aI lt (y::r)
  ·left
   rcases L.tot y.1 x.1 hy with h|h
   ·have h2:=no _ _ h
    unfold gK
    rcases Cw L x r (fun p hp=>hn p (by simp[hp]))with h3|h3
    ·rw[if_neg (by rw[h2];decide),List.takeWhile_cons,List.dropWhile_cons,if_pos h,if_pos h,h3]
     rfl
    ·exact absurd (List.pairwise_cons.1 hs).2 h3
   ·have h2:=no _ _ h
    unfold gK
    rw[if_pos h,List.takeWhile_cons,List.dropWhile_cons,if_neg (by rw[h2];decide),if_neg (by rw[h2];decide)]
    rfl
  ·exact .inr hs
end
theorem JC {d id:Int} {nm:Nm} {A B:List iM} (h:∀e∈A,jQ d nm e=true):nI (A++B) d nm id=A++nI B d nm id:=by
 unfold nI
 rw[List.takeWhile_append_of_pos h,List.dropWhile_append_of_pos h,List.append_assoc]
theorem Gd {α:Type} {p:α→Bool}:∀{B:List α},(∀e∈B,p e=false)→B.takeWhile p=[]∧B.dropWhile p=B
 |[],_=>⟨rfl,rfl⟩
 |e::r,h=>by
  have:=h e (by simp)
  simp[this]
theorem Bd {d id:Int} {nm:Nm} {B:List iM} (h:∀e∈B,jQ d nm e=false):∀A:List iM,nI (A++B) d nm id=nI A d nm id++B
 |[]=>by
  obtain⟨h1,h2⟩:=Gd h
  unfold nI
  rw[List.nil_append,h1,h2]
  simp
 |e::r=>by
  have ih:=Bd (id:=id) h r
  unfold nI at ih⊢
  rw[List.cons_append,List.takeWhile_cons,List.dropWhile_cons,List.takeWhile_cons,List.dropWhile_cons]
  cases he:jQ d nm e with
  |true=>
   simp only[if_true,List.cons_append,ih]
  |false=>simp
theorem dK (y:Int×bA) (r:aF):aU (y::r)=jK y++aU r:=by unfold aU;rw[List.flatMap_cons]
theorem Cx {T:aF} {e:iM} (h:e∈aU T):∃q∈T,q.1=e.1∧e.2∈q.2.names:=by
 unfold aU at h
 obtain⟨q,hq,he⟩:=List.mem_flatMap.1 h
 obtain⟨y,hy,rfl⟩:=List.mem_map.1 he
 exact⟨q,hq,rfl,hy⟩
theorem mF (k:Int) (f:bA→bA) (y:Int×bA) (r:aF):aX k f (y::r)=(if y.1=k then(y.1,f y.2)else y)::aX k f r:=rfl
theorem Bf {k:Int} {f:bA→bA} {r:aF} (h:∀q∈r,q.1≠k):aX k f r=r:=by
 unfold aX
 conv=>rhs;rw[←List.map_id r]
 apply List.map_congr_left
 intro q hq
 rw[if_neg (h q hq)]
 rfl
theorem yQ {d id:Int} {nm:Nm}:∀{T:aF} {x:bA},aI gH T→ah d T=some x→aI bytesBefore x.names→ah nm x.names=none→nI (aU T) d nm id=aU (setName T d nm id)
 |[],x,_,hx,_,_=>by cases hx
 |y::r,x,hs,hx,hns,hn=>by
  obtain⟨h1,h2⟩:=List.pairwise_cons.1 hs
  rw[eU]at hx
  unfold setName
  rw[mF,dK,dK]
  by_cases hy:y.1=d
  ·rw[if_pos hy]at hx
   cases hx
   rw[if_pos hy,Bf (fun q hq=>by have:=h1 q hq;simp at this;omega)]
   rw[Bd (fun e he=>by
    obtain⟨q,hq,hk,_⟩:=Cx he
    have:=h1 q hq
    simp only[decide_eq_true_eq]at this
    unfold jQ
    have a1:¬e.1<d:=by omega
    have a2:¬e.1=d:=by omega
    simp[a1,a2])]
   congr 1
   unfold nI jK
   have hp:(jQ d nm)∘(fun e:Nm×Int=>((y.1,e.1,e.2):iM))=fun e=>bytesBefore e.1 nm:=by
    funext e
    simp[jQ,hy]
   rw[List.takeWhile_map,List.dropWhile_map,hp]
   have hk:∀p∈y.2.names,p.1≠nm:=iq.1 hn
   unfold bZ
   rw[jd hn]
   rcases Cw nk (nm,id) y.2.names hk with h3|h3
   ·rw[h3,List.map_append,List.map_cons,hy]
   ·exact absurd hns h3
  ·rw[if_neg hy]at hx
   rw[if_neg hy]
   have hlt:=h1 _ (bq hx)
   simp only[decide_eq_true_eq]at hlt
   rw[JC (fun e he=>by
    obtain⟨z,hz,rfl⟩:=List.mem_map.1 he
    unfold jQ
    simp[hlt])]
   rw[yQ h2 hx hns hn]
   rfl
theorem sS {α:Type} {p:α→Bool}:∀{l:List α} {k:Nat} {x:α},l[k]? =some x→p x=true→l.Pairwise (fun a b=>¬(p a=true∧p b=true))→l.take k++l.drop (k+1)=l.filter fun a=> !p a
 |[],k,x,h,_,_=>by simp at h
 |y::r,0,x,h,hp,hw=>by
  simp only[List.getElem?_cons_zero,Option.some.injEq]at h
  subst h
  have h1:=(List.pairwise_cons.1 hw).1
  simp only[List.take_zero,List.nil_append,Nat.zero_add,List.drop_succ_cons,List.drop_zero,List.filter_cons,hp,Bool.not_true]
  rw[if_neg (by decide)]
  symm
  rw[List.filter_eq_self]
  intro a ha
  cases hpa:p a with
  |false=>rfl
  |true=>exact absurd ⟨hp,hpa⟩ (h1 a ha)
 |y::r,k+1,x,h,hp,hw=>by
  obtain⟨h1,h2⟩:=List.pairwise_cons.1 hw
  have hx:r[k]? =some x:=by simpa using h
  have hy:p y=false:=by
   cases hpy:p y with
   |false=>rfl
   |true=>exact absurd ⟨hpy,hp⟩ (h1 x (List.mem_of_getElem? hx))
  rw[List.take_succ_cons,List.drop_succ_cons,List.cons_append,sS hx hp h2,List.filter_cons,hy]
  rfl
theorem Gf {T:aF} (hs:aI gH T) (hn:∀q∈T,aI bytesBefore q.2.names) (d:Int) (nm:Nm):(aU T).Pairwise fun a b=>¬(gB d nm a=true∧gB d nm b=true):=by
 unfold aU
 rw[List.pairwise_flatMap]
 refine⟨fun q hq=> ?_,?_⟩
 ·unfold jK
  rw[List.pairwise_map]
  refine List.Pairwise.imp (fun{a b} hab=> ?_) (hn q hq)
  simp only[gB,decide_eq_true_eq]
  rintro ⟨⟨_,h1⟩,_,h2⟩
  rw[h1,h2,nk.Wo]at hab
  cases hab
 ·refine List.Pairwise.imp (fun{a b} hab=> ?_) hs
  intro x hx y hy
  obtain⟨x',_,rfl⟩:=List.mem_map.1 hx
  obtain⟨y',_,rfl⟩:=List.mem_map.1 hy
  simp only[gB,decide_eq_true_eq]
  rintro ⟨⟨h1,_⟩,h2,_⟩
  simp only[decide_eq_true_eq]at hab
  omega
theorem yR (d:Int) (nm:Nm):∀T:aF,(aU T).filter (fun e=> !gB d nm e)=aU (ak T d nm)
 |[]=>rfl
 |y::r=>by
  have ih:=yR d nm r
  unfold ak at ih⊢
  rw[mF,dK,dK,List.filter_append,ih]
  congr 1
  unfold jK
  rw[List.filter_map]
  by_cases hy:y.1=d
  ·rw[if_pos hy]
   unfold bB
   simp only
   congr 1
   apply List.filter_congr
   intro e _
   simp[gB,hy]
  ·rw[if_neg hy]
   congr 1
   rw[List.filter_eq_self]
   intro e _
   simp[gB,hy]
theorem Bg {x:Int×bA} (hx:x.2.names=[]):∀T:aF,aU (gK gH x T)=aU T
 |[]=>by
  unfold gK
  rw[dK];unfold jK;rw[hx];rfl
 |y::r=>by
  unfold gK
  split
  ·rw[dK];unfold jK;rw[hx];rfl
  ·rw[dK,dK,Bg hx r]
theorem D_ {T:aF} {f kind:Int} (hf:ah f T=none):aU (bZ gH f (bS kind) T)=aU T:=by
 unfold bZ
 rw[jd hf]
 exact Bg (x:=(f,bS kind)) rfl T
theorem Ea {id:Int}:∀{T:aF},(∀q∈T,q.1=id→q.2.names=[])→aU (bB id T)=aU T
 |[],_=>rfl
 |y::r,h=>by
  have ih:=Ea (T:=r) (id:=id) fun q hq=>h q (by simp[hq])
  unfold bB at ih⊢
  rw[List.filter_cons]
  by_cases hy:y.1=id
  ·have:=h y (by simp) hy
   simp only[hy,decide_true,Bool.not_true]
   rw[if_neg (by decide),ih,dK]
   unfold jK
   rw[this];rfl
  ·simp only[hy,decide_false,Bool.not_false,if_true]
   rw[dK,dK,ih]
theorem kN {id:Int} {f:bA→bA} (hf:∀x,(f x).names=x.names):∀T:aF,aU (aX id f T)=aU T
 |[]=>rfl
 |y::r=>by
  rw[mF,dK,dK,kN hf r]
  congr 1
  by_cases hy:y.1=id
  ·rw[if_pos hy];unfold jK;simp only;rw[hf]
  ·rw[if_neg hy]
theorem yS (id:Int):∀T:aF,aU (dV T id)=(aU T).filter fun e=> !decide (e.2.2=id)
 |[]=>rfl
 |y::r=>by
  have:dV (y::r) id=(y.1,fF id y.2)::dV r id:=rfl
  rw[this,dK,dK,List.filter_append,yS id r]
  congr 1
  unfold jK fF
  simp only
  rw[List.filter_map]
  rfl
theorem Mw {T:aF} (hs:aI gH T) (id:Int):T.Pairwise fun a b=>¬(nu id a=true∧nu id b=true):=by
 refine List.Pairwise.imp (fun{a b} hab=> ?_) hs
 simp only[nu,decide_eq_true_eq]
 simp only[decide_eq_true_eq]at hab
 omega
theorem RF {T:aF} (hs:aI gH T) {k:Nat} {q:Int×bA} (hq:T[k]? =some q):T.take k++T.drop (k+1)=bB q.1 T:=by
 rw[sS (p:=nu q.1) hq (by simp[nu]) (Mw hs q.1)]
 rfl
theorem mg {f:bA→bA}:∀{T:aF} {k:Nat} {q:Int×bA},aI gH T→T[k]? =some q→T.set k (q.1,f q.2)=aX q.1 f T
 |[],k,q,_,h=>by simp at h
 |y::r,0,q,hs,h=>by
  simp only[List.getElem?_cons_zero,Option.some.injEq]at h
  subst h
  obtain⟨h1,_⟩:=List.pairwise_cons.1 hs
  rw[mF,if_pos rfl,Bf (fun p hp=>by have:=h1 p hp;simp at this;omega)]
  rfl
 |y::r,k+1,q,hs,h=>by
  obtain⟨h1,h2⟩:=List.pairwise_cons.1 hs
  have hx:r[k]? =some q:=by simpa using h
  have:=h1 q (List.mem_of_getElem? hx)
  simp only[decide_eq_true_eq]at this
  rw[mF,if_neg (by omega),←mg h2 hx]
  rfl
theorem sU {id:Int} {f:bA→bA} (hf:∀x,dx (id,f x)=dx (id,x)):∀T:aF,(aX id f T).flatMap dx=T.flatMap dx
 |[]=>rfl
 |y::r=>by
  rw[mF,List.flatMap_cons,List.flatMap_cons,sU hf r]
  congr 1
  by_cases hy:y.1=id
  ·rw[if_pos hy,hy,hf,←hy]
  ·rw[if_neg hy]
theorem mG {id:Int} {f:bA→bA} (hf:∀x,(f x).b=x.b) (T:aF):(aX id f T).map (fun q=>q.2.b)=T.map fun q=>q.2.b:=by
 unfold aX
 rw[List.map_map]
 apply List.map_congr_left
 intro q _
 by_cases h:q.1=id<;>simp[h,hf]
theorem Eb (id:Int) (T:aF):(dV T id).flatMap dx=T.flatMap dx:=by
 unfold dV
 rw[List.flatMap_map]
 rfl
theorem Gg (id:Int) (T:aF):(dV T id).map (fun q=>q.2.b)=T.map fun q=>q.2.b:=by
 unfold dV
 rw[List.map_map]
 rfl
theorem data_set {f:bA→bA} {T:aF} {k:Nat} {q:Int×bA} (hs:aI gH T) (hq:T[k]? =some q):(aX q.1 f T).map (fun q=>q.2.b)=(T.map fun q=>q.2.b).set k (f q.2).b:=by
 rw[←mg hs hq,List.map_set]
theorem RG {T:aF} (hs:aI gH T) {f:Int} (x:bA) (hf:ah f T=none):bZ gH f x T=T.takeWhile (fun q=>decide (q.1<f))++(f,x)::T.dropWhile fun q=>decide (q.1<f):=by
 unfold bZ
 rw[jd hf]
 rcases Cw bW (f,x) T (iq.1 hf)with h|h
 ·exact h
 ·exact absurd hs h
theorem gX {T:aF} (hT:fB T):(aU T).length≤4096:=by
 have h1:=Fz (fun e:iM=>e.2.2) 64 (T.map (·.1)) (aU T) (fun e he=>by
  obtain⟨x,hx,hm⟩:=(jw hT.sorted).1 he
  obtain⟨y,hy⟩:=Option.isSome_iff_exists.1 (hT.leads _ x hx e.2 hm).1
  exact List.mem_map.2 ⟨_,bq hy,rfl⟩) (fun j hj=>by
   have hcnt:(aU T).countP (fun e=>decide (e.2.2=j))=eB T j:=by
    unfold aU eB cn
    rw[List.countP_flatMap]
    congr 1
    apply List.map_congr_left
    intro q _
    unfold jK
    simp only[Function.comp_apply,List.countP_map]
    rfl
   rw[hcnt]
   by_cases h0:j=0
   ·have:(aU T).countP (fun e=>decide (e.2.2=j))=0:=by
     rw[List.countP_eq_zero]
     intro e he
     obtain⟨x,hx,hm⟩:=(jw hT.sorted).1 he
     have:=(hT.leads _ x hx e.2 hm).2
     simp[h0,this]
    omega
   ·obtain⟨q,hq,rfl⟩:=List.mem_map.1 hj
    have hy:=aL bW hT.sorted hq
    have h2:=hT.counts _ _ hy h0
    have h3:=(hT.each _ _ hy).links
    omega)
 have:=hT.len
 rw[List.length_map]at h1
 omega
end Go.Proofs.YtjnhnlabpccgjaaGreat
