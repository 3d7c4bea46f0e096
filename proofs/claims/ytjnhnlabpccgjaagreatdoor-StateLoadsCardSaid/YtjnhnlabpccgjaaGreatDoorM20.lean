/- package -/
import Derived.Test.YtjnhnlabpccgjaaGreatDoorM19
import Derived.Test.YtjnhnlabpccgjaaGreatDoorM13
import Derived.Test.YtjnhnlabpccgjaaGreatDoorM16
import Derived.Deep.WholeRow
import Derived.Test.YtjnhnlabpccgjaaGreatDoorM18
import Derived.Test.YtjnhnlabpccgjaaGreatDoorM03
import Derived.Laws.Tables
import Derived.Laws.Rows
set_option maxRecDepth 100000
set_option maxHeartbeats 64000000
set_option linter.all false
namespace Go.Proofs.YtjnhnlabpccgjaaGreatDoor
open Go.ChangeShapes Go.WideShapes Go.ChangeAt Go.RowKit
theorem za{P:Program}{fn:Func}{a:Nat}{t:TypeId}{tmps:Array Value}{ad:Addr}{v:Value}{w:World}(h:fn.results= #[.cell a t])(ha:tmps.getD a undef= .pointer (some ad))(hl:(loadVar t ad).run P w= .ok v w):(results fn tmps).run P w= .ok v w:=by
 have ha2:tmps[a]?.getD undef= .pointer (some ad):=by simpa using ha
 simp[results,h,asAddr,ha2,hl]
theorem rZ{P:Program}{ops:Array Oper}{rest:List Oper}{o:Oper}{a:Act}{w w':World}{Q:Exit→Act→World→Prop}(hgd:o.guard=none)(t:TypeId)(p v:Operand)(hop:o.op=Op.store t p v)(hrun:(Instr.storeAt t (a.eval p) (a.eval v)).run P w= .ok () w')(h:wpList P ops Q rest (a.put o.dst undef) w'):wpList P ops Q (o::rest) a w:=by
 refine abS hgd fun K hK=> ?_;unfold Oper.wp;simp[execOp,hop,hrun,Result.andThen];exact hK _ _ h
abbrev xK:Array Value:=(kM.map jy).toArray
abbrev z64:Array Value:=(List.replicate 64 (Value.int .u32 0)).toArray
theorem Mq(w:World):(Instr.storeAt 218 (.pointer (some ⟨w.heap.size,0,none⟩)) (.agg xK)).run Tryz.prog (w.alloc (.cells z64 218))= .ok () (w.alloc (.cells xK 218)):=run_storeAt_new (P:=Tryz.prog) w 218 z64 xK (by kernel_rfl) (by kernel_rfl) (by kernel_rfl)
theorem Ah{P:Program}{ops:Array Oper}{rest:List Oper}{o:Oper}{a:Act}{w:World}{Q:Exit→Act→World→Prop}{v:Value}(hgd:o.guard=none)(t:TypeId)(parts:Array (Nat×Operand))(hop:o.op=Op.build t parts)(hrun:(Instr.build t (parts.map fun(i,x)=>(i,a.eval x))).run P w= .ok v w)(h:wpList P ops Q rest (a.put o.dst v) w):wpList P ops Q (o::rest) a w:=by
 refine abS hgd fun K hK=> ?_;unfold Oper.wp;simp only[execOp,hop,hrun,abz,abF,Result.andThen];exact hK _ _ h
theorem FZ:∀(k:Nat) (h:List Int) (b:List UInt8),runM h (k+1) b=jG (runM h k b) ((b.drop (64*k)).take 64)
 |0,h,b=>rfl
 |k+1,h,b=>by
  have e1:runM h (k+1+1) b=runM (jG h (b.take 64)) (k+1) (b.drop 64):=rfl;have e2:runM h (k+1) b=runM (jG h (b.take 64)) k (b.drop 64):=rfl;rw[e1,e2,FZ k,List.drop_drop];congr 3;omega
def oL(n:Nat):Nat:=(119-n%64)%64
def uS(rest:List UInt8)(n:Nat):List UInt8:=rest++[128]++List.replicate (oL rest.length) 0++eB ((n:Int)*8) 8
def Hq(h:List Int):List UInt8:=h.flatMap fun z=>eB (z%4294967296) 4
def vE(bs:List UInt8):List UInt8:=
 Hq (runM (runM IQ (bs.length/64) bs) ((uS (bs.drop (bs.length/64*64)) bs.length).length/64) (uS (bs.drop (bs.length/64*64)) bs.length))
theorem ze(bs:List UInt8):(vE bs).length=32:=by
 unfold vE Hq;have h1:=yY ((uS (bs.drop (bs.length/64*64)) bs.length).length/64) (runM IQ (bs.length/64) bs) (uS (bs.drop (bs.length/64*64)) bs.length) (yY _ _ _ rfl);generalize runM _ _ _=h at h1
 match h,h1 with
 |[a,b,c,d,e,f,g,i],_=>rfl
theorem JF(r j:Nat)(hj:j≤oL r):((r+1+j)%64=56↔j=oL r):=by
 unfold oL at*;omega
theorem be4(z:Int):[Value.int .u8 (z/16777216%256),.int .u8 (z/65536%256),.int .u8 (z/256%256),.int .u8 (z%256)]=(eB (z%4294967296) 4).map bv:=by
 unfold eB eB eB eB eB;simp[bv];refine⟨?_,?_,?_,?_⟩<;>omega
theorem Qq{R:List Int}{k:Nat}(hk:k<R.length):Hq (R.take (k+1))=Hq (R.take k)++eB (R.getD k 0%4294967296) 4:=by
 unfold Hq;rw[aae hk,aaG,aaL,List.getElem?_eq_getElem hk];simp
theorem Qr(r:Nat):oL r<64:=by unfold oL;omega
theorem Ud{w:World}{B B':Nat}{e:TypeId}{k:Nat}{v:Value}{n:Nat}{xs:List Value}(h:w.ownsRow B e k v n xs)(hB:B'≤B):w.ownsRow B' e k v n xs:=by
 obtain⟨h1,h2⟩:=h;refine⟨h1,?_⟩;rcases h2 with h2|⟨g,cap,cur,e1,e2,e3⟩
 ·exact .inl h2
 ·exact .inr ⟨g,cap,cur,e1,aax hB e2,e3⟩
def jB(S:lN)(T:aA):(Int×Int)×lN:=
 if 8≤S.l.length then((0,4),S)else
 ((S.next,0),⟨S.l++[⟨S.next,vE (S.last++dw (aV T)),aV T⟩],S.next+1,vE (S.last++dw (aV T))⟩)
theorem JG{T:aA}(hT:dZ T):(dw T).length≤6000000:=by
 have h1:=wC hT T (fun q hq=>hq);have h2:=hT.len;unfold dw;rw[List.length_append,bB];omega
section
variable{W w:World}{o:Mark}{i j s p:Nat}{S:lN}{T:aA}
end
theorem Qs(x0 x1 x2 x3 x4 x5 x6 x7:Value)(w:World):(Instr.index 55 (.agg #[x0,x1,x2,x3,x4,x5,x6,x7]) (.int .i64 0)).run Tryz.prog w= .ok x0 w:=by
 kernel_rfl
theorem Qt(x0 x1 x2 x3 x4 x5 x6 x7:Value)(w:World):(Instr.index 55 (.agg #[x0,x1,x2,x3,x4,x5,x6,x7]) (.int .i64 1)).run Tryz.prog w= .ok x1 w:=by
 kernel_rfl
theorem Qu(x0 x1 x2 x3 x4 x5 x6 x7:Value)(w:World):(Instr.index 55 (.agg #[x0,x1,x2,x3,x4,x5,x6,x7]) (.int .i64 2)).run Tryz.prog w= .ok x2 w:=by
 kernel_rfl
theorem Qv(x0 x1 x2 x3 x4 x5 x6 x7:Value)(w:World):(Instr.index 55 (.agg #[x0,x1,x2,x3,x4,x5,x6,x7]) (.int .i64 3)).run Tryz.prog w= .ok x3 w:=by
 kernel_rfl
theorem Qw(x0 x1 x2 x3 x4 x5 x6 x7:Value)(w:World):(Instr.index 55 (.agg #[x0,x1,x2,x3,x4,x5,x6,x7]) (.int .i64 4)).run Tryz.prog w= .ok x4 w:=by
 kernel_rfl
theorem Qx(x0 x1 x2 x3 x4 x5 x6 x7:Value)(w:World):(Instr.index 55 (.agg #[x0,x1,x2,x3,x4,x5,x6,x7]) (.int .i64 5)).run Tryz.prog w= .ok x5 w:=by
 kernel_rfl
theorem Qy(x0 x1 x2 x3 x4 x5 x6 x7:Value)(w:World):(Instr.index 55 (.agg #[x0,x1,x2,x3,x4,x5,x6,x7]) (.int .i64 6)).run Tryz.prog w= .ok x6 w:=by
 kernel_rfl
theorem Qz(x0 x1 x2 x3 x4 x5 x6 x7:Value)(w:World):(Instr.index 55 (.agg #[x0,x1,x2,x3,x4,x5,x6,x7]) (.int .i64 7)).run Tryz.prog w= .ok x7 w:=by
 kernel_rfl
theorem Ue(v:Nat→Value)(n:Nat)(hn:n<8)(w:World):(Instr.index 55 (.agg #[v 0,v 1,v 2,v 3,v 4,v 5,v 6,v 7]) (.int .i64 n)).run Tryz.prog w= .ok (v n) w:=by
 match n,hn with
 |0,_=>exact Qs _ _ _ _ _ _ _ _ w
 |1,_=>exact Qt _ _ _ _ _ _ _ _ w
 |2,_=>exact Qu _ _ _ _ _ _ _ _ w
 |3,_=>exact Qv _ _ _ _ _ _ _ _ w
 |4,_=>exact Qw _ _ _ _ _ _ _ _ w
 |5,_=>exact Qx _ _ _ _ _ _ _ _ w
 |6,_=>exact Qy _ _ _ _ _ _ _ _ w
 |7,_=>exact Qz _ _ _ _ _ _ _ _ w
section
variable{W w:World}{o:Mark}{i j k p:Nat}{M:dQ}
theorem Uf(h:eG o i j k w p M):Calls Tryz.prog 138 #[ptr p] w fun e w'=>∃n,e= .returned (.int .i64 n)∧JD M n∧w'=w:=by
 obtain⟨t,s,v,h1,h2,h3,h4⟩:=h.at_;obtain⟨c0,c1,c2,c3,c4⟩:=lq h1;have e3:=c3 0 (by omega);have e4:=c3 1 (by omega);have e5:=c3 2 (by omega);have e6:=c3 3 (by omega);have e7:=c3 4 (by omega);have e8:=c3 5 (by omega);have e9:=c3 6 (by omega);have e10:=c3 7 (by omega);have H4:=acr h4;clear h h1 h2 h3 h4 c3 c4;go_enter Tryz.func138,Tryz.ntmps138;go_wp2_with fail
 go_loopw [9] (fun iv wr=>∃n:Nat,n≤8∧iv= .int .i64 n∧(∀m,m<n→M.fds m≠none)∧wr=w) (fun iv _=>8-(intOf iv).toNat)
 case atStart=>exact⟨0,by omega,rfl,fun m hm=>by omega,rfl⟩
 case round=>
  obtain⟨n,hn,rfl,hno,rfl⟩:=hrel;have Dx:=acr hno;clear hno;by_cases mQ:n<8
  ·have hd:decide ((n:Int)<8)=true:=by simp;omega
   have hix:=Ue v n mQ wr;have hf:=H4.o n mQ;have i0:(0:Int)≤n:=by omega
   cases yM:M.fds n with
   |none=>
    rw[yM]at hf;have hv:v n= .pointer none:=hf;rw[hv]at hix;have II:=acr yM;clear hf hv yM;go_wp2_with fail;go_ret;exact⟨n,rfl,.inr ⟨n,mQ,rfl,II.o,Dx.o⟩,rfl⟩
   |some f=>
    rw[yM]at hf;obtain⟨q,fa,fc,hv,_⟩:=hf;rw[hv]at hix;have II:=acr yM;clear hv yM;go_wp2_with fail;go_roundw
    case rel=>
     refine⟨n+1,by omega,by go_num,fun m hm=> ?_,trivial⟩;by_cases hmn:m=n
     ·rw[hmn,II.o];simp
     ·exact Dx.o m (by omega)
    case measure=>simp[intOf];omega
  ·obtain rfl:n=8:=by omega
   go_wp2_with fail;go_ret;exact⟨-1,rfl,.inl ⟨rfl,Dx.o⟩,rfl⟩
end
def F3(S:lN)(id:Int):Option iw:=S.l.find? fun x=>decide (x.id=id)
theorem JC.none_{S:lN}{id:Int}(h:∀x∈S.l,x.id≠id):F3 S id=none:=by
 unfold F3;rw[abD];intro x hx;simpa using h x hx
theorem JC.some_:∀{l:List iw} {id:Int} {k:Nat} {x:iw},l[k]? =some x→x.id=id→(∀x'∈l.take k,x'.id≠id)→l.find? (fun x=>decide (x.id=id))=some x
 |[],_,k,x,h,_,_=>by simp at h
 |y::r,id,0,x,h,h1,_=>by
  have e:y=x:=by simpa using h
  subst e;simp[h1]
 |y::r,id,k+1,x,h,h1,h2=>by
  have hy:y.id≠id:=h2 y (by simp);rw[List.find?_cons_of_neg (by simpa using hy)];exact JC.some_ (k:=k) (by simpa using h) h1 fun x' hx'=>h2 x' (by simp[hx'])
section
variable{W w:World}{o:Mark}{i s:Nat}{S:lN}
end
def jH(w:World)(g:Nat)(cs:Array Value)(t:TypeId)(w':World):Prop:=w'.heap[g]? =some (.cells cs t (0,0))∧Keeps (fun b=>b=g) w w'∧w'.heap.size=w.heap.size
theorem Dy(w:World)(g:Nat)(old cs:Array Value)(t:TypeId)(hg:w.heap[g]? =some (.cells old t (0,0))):jH w g cs t (w.setRow g cs):=by
 have hz:(w.setRow g cs).heap.size=w.heap.size:=by simp[World.setRow]
 exact⟨setRow_heap w g old cs t _ hg,⟨rfl,rfl,rfl,by omega,fun b _ hb=>setRow_other w g b cs hb⟩,hz⟩
theorem aJ{P:Program}{ops:Array Oper}{rest:List Oper}{o:Oper}{a:Act}{w:World}{Q:Exit→Act→World→Prop}(hgd:o.guard=none)(ty:TypeId)(x y:Operand)(ho:o.op= .store ty x y)
  (g:Nat)(cells:Array Value)(hx:a.eval x= .pointer (some ⟨g,0,none⟩))(hy:a.eval y= .agg cells)
  (old:Array Value)(hg:w.heap[g]? =some (.cells old ty (0,0)))(hi:(P.info? ty).map (·.size)=some cells.size)
  (hold:old.size=cells.size)(h1:cells.all (·.oneCell')=true)
  (h:∀w',jH w g cells ty w'→wpList P ops Q rest (a.put o.dst undef) w'):wpList P ops Q (o::rest) a w:=
 wpList_store_row hgd ty x y ho g cells hx hy ty old hg hi hold h1 (h _ (Dy w g old cells ty hg))
theorem jH.below{w0 w w':World}{g:Nat}{cs:Array Value}{t:TypeId}(h:jH w g cs t w')(hb:Below w0.heap.size w0 w)(hg:w0.heap.size≤g):Below w0.heap.size w0 w':=by
 obtain⟨_,h2,h3⟩:=h;exact⟨h2.os.trans hb.os,h2.tape.trans hb.tape,h2.output.trans hb.output,aax hb.size h2.size,fun b hb'=>(h2.block b (Nat.lt_of_lt_of_le hb' hb.size) (fun e:b=g=>by omega)).trans (hb.block b hb')⟩
theorem Fe{P:Program}{fn:Func}{a b:Nat}{t:TypeId}{tmps:Array Value}{ad:Addr}{v:Value}{w:World}(h:fn.results= #[.cell a t,.tmp b])(ha:tmps.getD a undef= .pointer (some ad))(hl:(loadVar t ad).run P w= .ok v w):(results fn tmps).run P w= .ok (.tuple #[v,tmps.getD b undef]) w:=by
 have ha2:tmps[a]?.getD undef= .pointer (some ad):=by simpa using ha
 simp[results,h,asAddr,ha2,hl]
theorem qp:(Tryz.prog.info? 39).map (·.size)=some 6:=by kernel_rfl
def kF:Array Value:= #[.int .i64 0,.int .i64 0,.int .i64 0,.int .i64 0,.int .u64 0,.bool false]
theorem r_{fn:Func}{sl b':Nat}{Q:Ending→World→Prop}{a:Act}{w:World}{b:Nat}{cs:Array Value}{z:Value}(hf:fn.results= #[.cell sl 39,.tmp b'])(hs:a.tmps.getD sl undef= .pointer (some ⟨b,0,none⟩))(hz:a.tmps.getD b' undef=z)(hd:a.defers=[])(hg:w.heap[b]? =some (.cells cs 39 (0,0)))(h6:cs.size=6)(hQ:Q (.returned (.tuple #[.agg cs,z])) w):
  bodyPost Tryz.prog fn Q .ret a w:=by
 subst hz;exact aaB (v:= .tuple #[.agg cs,a.tmps.getD b' undef]) (Fe hf hs (run_loadVar_row w b 39 39 _ (0,0) _ hg Tryz.underlying39 rfl (by rw[h6];exact qp))) hd hQ
structure jK where
 kind:Int
 path:List UInt8
 ig:List UInt8
 fd:Int
 at_:Int
 n:Int
 aF:Int
 snap:Int
 data:List UInt8
def opC(x:jK)(da:Option Addr)(dc:Nat):Array Value:= #[.int .i64 x.kind,.string (strOf x.path),.string (strOf x.ig),.int .i64 x.fd,.int .i64 x.at_,.int .i64 x.n,.int .u64 x.aF,.int .i64 x.snap,.slice da x.data.length dc]
structure nN(x:jK):Prop where
 wk:(Lit.int .i64 x.kind).wf=true
 wf:(Lit.int .i64 x.fd).wf=true
 wa:(Lit.int .i64 x.at_).wf=true
 wn:(Lit.int .i64 x.n).wf=true
 ws:(Lit.int .i64 x.snap).wf=true
 wt:0≤x.aF∧x.aF≤18446744073709551615
 wp:x.path.length<4294967281
 wq:x.ig.length<4294967281
 wd:x.data.length≤1000000000
structure su where
 er:Int
 n:Int
 data:List UInt8
 names:List Nm
 node:Option (Int×bJ)
def dR(z:Int):su:=⟨z,0,[],[],none⟩
def jd(r:su)(da la:Option Addr)(dc lc:Nat):Array Value:= #[.int .i64 r.er,.int .i64 r.n,.slice da r.data.length dc,.slice la r.names.length lc,
 .int .i64 (match r.node with|some q=>q.1|none=>0),.int .i64 (match r.node with|some q=>q.2.kind|none=>0),.int .i64 (match r.node with|some q=>q.2.links|none=>0),.int .i64 (match r.node with|some q=>(q.2.b.length:Int)|none=>0),.int .u64 (match r.node with|some q=>q.2.aF|none=>0),.bool (match r.node with|some q=>q.2.closed|none=>false)]
def tC(o:Mark)(w:World)(v:Value)(r:su):Prop:=
 ∃da la dc lc,v= .agg (jd r da la dc lc)∧r.data.length≤dc∧r.names.length≤lc∧ah (Free o w) w da r.data.length (r.data.map bv)∧aT (Free o w) w la r.names.length (r.names.map strOf)
theorem mV(S:Nat→Prop)(w:World):aT S w none 0 []:=⟨ah.nil _ _ _,fun v hv=>by cases hv⟩
theorem tC.no(o:Mark)(w:World)(z:Int):tC o w (pz z) (dR z):=
 ⟨none,none,0,0,rfl,Nat.le_refl _,Nat.le_refl _,ah.nil _ _ _,mV _ _⟩
theorem iX(r:su)(da la:Option Addr)(dc lc:Nat):(jd r da la dc lc).all (·.oneCell')=true:=by simp[jd,Value.oneCell']
theorem tC.no_(o:Mark)(w:World)(z:Int):tC o w (.agg (jd (dR z) none none 0 0)) (dR z):=
 ⟨none,none,0,0,rfl,Nat.le_refl _,Nat.le_refl _,ah.nil _ _ _,mV _ _⟩
theorem iH:(Tryz.prog.info? 41).map (·.size)=some 10:=by kernel_rfl
theorem kC{fn:Func}{sl:Nat}{Q:Ending→World→Prop}{a:Act}{w:World}{b:Nat}{r:su}{da la:Option Addr}{dc lc:Nat}(hf:fn.results= #[.cell sl 41])(hs:a.tmps.getD sl undef= .pointer (some ⟨b,0,none⟩))(hd:a.defers=[])(hg:w.heap[b]? =some (.cells (jd r da la dc lc) 41 (0,0)))(hQ:Q (.returned (.agg (jd r da la dc lc))) w):
  bodyPost Tryz.prog fn Q .ret a w:=
 aaB (v:= .agg (jd r da la dc lc)) (za hf hs (run_loadVar_row w b 41 41 _ (0,0) _ hg Tryz.underlying41 rfl iH)) hd hQ
def Dz(M:dQ)(x:jK):su:=match jF M x.fd false with
 |none=>dR 26
 |some f=>⟨A_ x.at_ x.n,(qV f.b x.at_ x.n).length,qV f.b x.at_ x.n,[],none⟩
def DC(o:Mark)(r:su)(e:Ending)(w':World):Prop:=∃v,e= .returned v∧tC o w' v r
section
variable{W w:World}{o:Mark}{i j k p:Nat}{M:dQ}
end
structure Mk(i j k l:Nat):Prop where
 ne:i≠0∧j≠0∧k≠0∧l≠0∧i≠j∧i≠k∧i≠l∧j≠k∧j≠l∧k≠l
theorem jH.step{o:Mark}{l:Nat}{w4 w5:World}{g:Nat}{cs:Array Value}{t:TypeId}{W:World}(hM:Marks W o w4)(hs:jH w4 g cs t w5)(hg:o g=l):Step o (fun m=>m=l) w4 o w5:=by
 obtain⟨_,h2,h3⟩:=hs;refine⟨fun _ _=>rfl,fun b hb hn=>absurd (hM.new b hn).2 (by omega),h2.mono fun x _ (hx:x=g)=>by rw[hx];exact hg⟩
section
variable{W w:World}{o:Mark}{i j k l p:Nat}{M:dQ}
theorem eG.tree{o':Mark}{w':World}{t s:Nat}{v:Nat→Value}{T':aA}(hk:Mk i j k l)(h1:w.heap[p]? =some (.cells (EK t s M.now v) 57 (0,0)))(h2:LZ o i w s M.s)(h4:∀n,n<8→BO o w (v n) (M.fds n))(hown:o p=k)(hlow:p<w.heap.size)(hs:Step o (fun m=>m=j) w o' w')(hT:gZ o' j w' t T'):eG o' i j k w' p {M with t:=T'}:=by
 obtain⟨n1,n2,n3,n4,n5,n6,n7,n8,n9,n10⟩:=hk.ne;have h0:¬(fun m=>m=j) 0:=fun e=>n2 e.symm;exact⟨⟨t,s,v,(hs.block hlow (by rw[hown];exact fun e=>n8 e.symm)).trans h1,h2.step h0 n5 hs,hT,fun n hn=>(h4 n hn).step h0 hs⟩,(hs.old p hlow).trans hown,Nat.lt_of_lt_of_le hlow hs.keep.size⟩
def Ov(o:Mark)(i j k l:Nat)(w:World)(p:Nat)(q:su×dQ)(e:Ending)(w':World):Prop:=
 ∃o',DC o' q.1 e w'∧Step o (fun m=>m=i∨m=j∨m=k∨m=l) w o' w'∧eG o' i j k w' p q.2
def iY(M:dQ)(x:jK):su×dQ:=match jF M x.fd true with
 |none=>(dR 26,M)
 |some f=>if 600<x.data.length then(dR 3,M)else
  (if (cK M.t f.id x.data).1≠0 then dR (cK M.t f.id x.data).1 else⟨0,x.data.length,[],[],none⟩,{M with t:=(cK M.t f.id x.data).2})
theorem Mr{S:Nat→Prop}(hS:eG o i j k w p M)(hM:Marks W o w)(hk:Mk i j k l)(hok:dZ M.t)(x:jK)(hx:nN x)(hfi:∀n f,M.fds n=some f→(Lit.int .i64 f.id).wf=true)(da:Option Addr)(dc:Nat)(hda:ah S w da x.data.length (x.data.map bv)):
  Calls Tryz.prog 75 #[ptr p,.agg (opC x da dc)] w (Ov o i j k l w p (iY M x)):=by
 have HKK:=acr hk;have jO:=acr hok;have HX:=acr hx;have HM:=acr hM;have HS:=acr hS;have HFI:=acr hfi;have uT:=acr hda;clear hS hM hk hok hx hfi hda;unfold opC;go_enter Tryz.func75,Tryz.ntmps75;go_wp2_with fail;obtain⟨w2,hw2⟩:∃w2,w2=(w.alloc (.cells (opC x da dc) 30)).alloc (.cells (jd (dR 0) none none 0 0) 41):=⟨_,rfl⟩;have hb2:Below w.heap.size w w2:=by rw[hw2];exact(wall w _).trans ((wall _ _).mono (by simp))
 have hop:w2.heap[w.heap.size]? =some (.cells (opC x da dc) 30 (0,0)):=by
  rw[hw2];exact((wall _ _).block _ (by simp)).trans (MapKept.heap_alloc w _).1
 have hre:w2.heap[w.heap.size+1]? =some (.cells (jd (dR 0) none none 0 0) 41 (0,0)):=by
  rw[hw2];have:=(MapKept.heap_alloc (w.alloc (.cells (opC x da dc) 30)) (.cells (jd (dR 0) none none 0 0) 41)).1;rw[Pe]at this;exact this
 obtain⟨n1,n2,n3,n4,n5,n6,n7,n8,n9,n10⟩:=HKK.o.ne;obtain⟨o1,hs1,hl1,hl2⟩:=iQ HM.o l (fun b=>b=w.heap.size+1) (w':=w2) (fun b hb=>by subst hb;exact⟨by omega,(iL.1 hre).1⟩) hb2;have hS1:eG o1 i j k w2 p M:=HS.o.step (fun e=>n4 e.symm) n7 n9 n10 hs1;have hM1:Marks W o1 w2:=HM.o.step (fun e=>n4 e.symm) hs1;have xL:acs (Calls Tryz.prog 145 #[ptr p,.int .i64 x.fd,.bool true] ((w.alloc (.cells (opC x da dc) 30)).alloc (.cells (jd (dR 0) none none 0 0) 41)) fun e w''=>w''=w2∧T_ o1 w2 M x.fd true e):=by rw[←hw2];exact acr (Mi hS1 x.fd true)
 unfold opC jd dR at xL;dsimp only[List.length_nil]at xL;have XJ:=acr hop;have uG:=acr hre;have HB2:=acr hb2;have ko:=acr hS1;have nM:=acr hM1;have yD:=acr (hl1 _ rfl);have Xa:acs (o1 w.heap.size=0):=acr ((hl2 w.heap.size (by omega)).trans (Decidable.byContradiction fun h9=>by have:=(HM.o.new _ h9).2;omega));have uU:=acr hs1;clear hop hre hb2 hw2 hS1 hM1 hl1 hl2 hs1;refine xL.o.mono ?_;rintro e w3 ⟨rfl,yM⟩;clear xL;have qQ:acs (∀(z:su) (w4 w5:World),Below w3.heap.size w3 w4→jH w4 (w.heap.size+1) (jd z none none 0 0) 41 w5→z.data=[]→z.names=[]→Ov o i j k l w p (z,M) (.returned (.agg (jd z none none 0 0))) w5):=fun z w4 w5 hb hs hz1 hz2=>by
  have uX:=nM.o.step (I:=fun _=>False) (fun e=>e) (Step.grow nM.o hb);have hst:=hs.step uX yD.o;have uH:=(ko.o.grow nM.o hb).step (fun e=>n4 e.symm) n7 n9 n10 hst;refine⟨o1,⟨_,rfl,none,none,0,0,rfl,by rw[hz1];exact Nat.le_refl _,by rw[hz2];exact Nat.le_refl _,by rw[hz1];exact ah.nil _ _ _,by rw[hz2];exact mV _ _⟩,((uU.o.trans (Step.grow nM.o hb)).trans hst).mono fun m hm=> .inr (.inr (.inr hm)),uH⟩
 rcases yM with⟨hg,rfl⟩|⟨f,fv,hg,rfl,hfv⟩
 ·have hr:iY M x=(dR 26,M):=by unfold iY;rw[hg]
  have HRR:=acr hr;clear hg hr;go_wp2_with fail;refine(vD _ _).mono ?_;rintro e w4 ⟨rfl,hb4⟩;unfold pz;have eT:=acr hb4;have HR4:=acr ((hb4.block _ (iL.1 uG.o).1).trans uG.o);clear hb4;go_wp2_with (refine aJ (by rfl) 41 _ _ (by rfl) (w.heap.size+1) (jd (dR 26) none none 0 0) (by rfl) (by rfl) _ HR4.o iH rfl (iX _ _ _ _ _) ?_;intro w5 hs5;have eU:=acr hs5;clear hs5);exact kC rfl rfl rfl eU.o.1 (by rw[HRR.o];exact qQ.o _ _ _ eT.o eU.o rfl rfl)
 ·by_cases XK:600<x.data.length
  ·have hr:iY M x=(dR 3,M):=by unfold iY;rw[hg];simp only[if_pos XK]
   have HRR:=acr hr;have hd:decide ((600:Int)<(x.data.length:Int))=true:=by simp;omega
   have c8:w3.cell? ⟨w.heap.size,8,none⟩=some (.slice da x.data.length dc):=by simp[World.cell?,XJ.o,opC]
   clear hg hr hfv XK;go_wp2_with fail;refine(vD _ _).mono ?_;rintro e w4 ⟨rfl,hb4⟩;unfold pz;have eT:=acr hb4;have HR4:=acr ((hb4.block _ (iL.1 uG.o).1).trans uG.o);clear hb4;go_wp2_with (refine aJ (by rfl) 41 _ _ (by rfl) (w.heap.size+1) (jd (dR 3) none none 0 0) (by rfl) (by rfl) _ HR4.o iH rfl (iX _ _ _ _ _) ?_;intro w5 hs5;have eU:=acr hs5;clear hs5);exact kC rfl rfl rfl eU.o.1 (by rw[HRR.o];exact qQ.o _ _ _ eT.o eU.o rfl rfl)
  ·have hd:decide ((600:Int)<(x.data.length:Int))=false:=by simp;omega
   have hr:iY M x=(if (cK M.t f.id x.data).1≠0 then dR (cK M.t f.id x.data).1 else⟨0,x.data.length,[],[],none⟩,{M with t:=(cK M.t f.id x.data).2}):=by unfold iY;rw[hg];simp only[if_neg XK]
   have HRR:=acr hr;have Ug:(Lit.int .i64 f.id).wf=true:=by
    unfold jF at hg;split at hg
    ·split at hg
     ·split at hg
      ·cases hg;exact HFI.o _ _ (by assumption)
      ·cases hg
     ·cases hg
    ·cases hg
   obtain⟨q,fa,fc,rfl,hq0,hq1,hq2,hq3,hq4⟩:=hfv;obtain⟨t,s,v,h1,h2,h3,h4⟩:=(ko.o.grow nM.o acv.drew).at_;have h1':w3.heap[p]? =some (.cells (EK t s M.now v) 57 (0,0)):=h1;obtain⟨z0,z1,z2,z3,z4⟩:=lq h1';have y1:w3.cell? ⟨q,1,none⟩=some (.int .i64 f.id):=by simp[World.cell?,hq2]
   have c8:w3.cell? ⟨w.heap.size,8,none⟩=some (.slice da x.data.length dc):=by simp[World.cell?,XJ.o,opC]
   have hqd:w3.drew.heap[q]? =some (.cells #[.bool f.wr,.int .i64 f.id,.slice fa f.b.length fc] 186 (0,0)):=hq2;have hod:w3.drew.heap[w.heap.size]? =some (.cells (opC x da dc) 30 (0,0)):=XJ.o;have hMd:=nM.o.step (I:=fun _=>False) (fun e=>e) (Step.grow nM.o acv.drew);have HAP:=acr (P7 h3 hMd n2 jO.o f.id da x.data.length dc x.data Ug (uT.o.below (HB2.o.trans acv.drew) acu) HX.o.wd);have HC:acs (∀w':World,w'.heap[w.heap.size]? =some (.cells (opC x da dc) 30 (0,0))→w'.heap[q]? =some (.cells #[.bool f.wr,.int .i64 f.id,.slice fa f.b.length fc] 186 (0,0))→w'.heap[p]? =some (.cells (EK t s M.now v) 57 (0,0))→w'.cell? ⟨p,0,none⟩=some (ptr t)∧w'.cell? ⟨q,1,none⟩=some (.int .i64 f.id)∧w'.cell? ⟨w.heap.size,8,none⟩=some (.slice da x.data.length dc)):=fun w' e1 e2 e3=>by
    refine⟨?_,?_,?_⟩<;>simp[World.cell?,e1,e2,e3,opC,EK]
   have HQ:=acr (And.intro hq0 (And.intro hq1 hqd));have QA:=acr h1;have HH2:=acr h2;have HH4:=acr h4;have ZL:=acr hod;have HMD:=acr hMd;have hsz:=HB2.o.size;have hgs:=(iL.1 uG.o).1;have HGS:=acr hgs;have hps:=ko.o.low;clear hg hr XK hq0 hq2 hq3 hq4 h1 h1' h2 h3 h4 hqd hod hMd Ug z0 z1 z2 z3 z4 y1;obtain⟨ae,hae⟩:∃ae,ae=(cK M.t f.id x.data).1:=⟨_,rfl⟩;rw[←hae]at HAP HRR;clear hae;go_wp2_with fail;refine BP ((fun w'=>w'.cell? ⟨p,0,none⟩=some (ptr t)∧w'.cell? ⟨q,1,none⟩=some (.int .i64 f.id)∧w'.cell? ⟨w.heap.size,8,none⟩=some (.slice da x.data.length dc))) ?_ fun hS=> ?_
   ·exact HC.o _ ZL.o HQ.o.2.2 QA.o
   refine aX 0 hS ?_;refine aX 1 hS ?_;refine aX 2 hS ?_;refine aX 3 hS ?_;refine aX 4 hS ?_;refine aX 5 hS ?_;refine aX 6 hS ?_;refine aX 7 hS ?_;refine aX 8 hS ?_;refine aX 9 hS ?_;refine Bl 10 fun K hK=> ?_;go_simp;refine HAP.o.mono ?_;rintro e w4 ⟨rfl,o4,hs4,kK⟩;have XL:¬(fun m=>m=j) 0:=fun e=>n2 e.symm;have hq4:=(hs4.block HQ.o.2.1 (by rw[HQ.o.1];exact XL)).trans HQ.o.2.2;have Fg:=(hs4.block hps (by rw[ko.o.own];exact fun e=>n8 e.symm)).trans QA.o;have hgo:=Xa.o;have ho4:=(hs4.block (b:=w.heap.size) (Nat.lt_trans (Nat.lt_succ_self _) HGS.o) (by rw[hgo];exact XL)).trans ZL.o;have hr4:=(hs4.block (b:=w.heap.size+1) HGS.o (by rw[yD.o];exact fun e=>n9 e.symm)).trans uG.o;have uH:=eG.tree (M:=M) HKK.o QA.o HH2.o HH4.o ko.o.own hps hs4 kK;have uX:=HMD.o.step XL hs4;have qM:=acr uH;have nI:=acr uX;have HS4S:=acr hs4;have HL4:=acr ((hs4.old _ HGS.o).trans yD.o);have HR4:=acr hr4;have Ow:=acr (HC.o _ ho4 hq4 Fg);have c8':=(HC.o _ ho4 hq4 Fg).2.2;clear hq4 Fg hgo ho4 hr4 uH uX hs4 kK;go_wp2_with fail;refine Ag hK (Ow.o) fun hS=> ?_;clear hK K;refine aX 11 hS ?_;refine Bn ?_;clear hS;have ZM:acs (∀(z:su) (w5 w6:World),Below w4.heap.size w4 w5→jH w5 (w.heap.size+1) (jd z none none 0 0) 41 w6→z.data=[]→z.names=[]→Ov o i j k l w p (z,{M with t:=(cK M.t f.id x.data).2}) (.returned (.agg (jd z none none 0 0))) w6):=fun z w5 w6 hb hs hz1 hz2=>by
    have Zw:=nI.o.step (I:=fun _=>False) (fun e=>e) (Step.grow nI.o hb);have hst:=hs.step Zw HL4.o;have hS5:=(qM.o.grow nI.o hb).step (fun e=>n4 e.symm) n7 n9 n10 hst;have Ms:Step o1 (fun m=>m=i∨m=j∨m=k∨m=l) w3 o4 w6:=((Step.behind nM.o acv.drew (HS4S.o.mono fun m hm=> .inr (.inl hm))).trans (Step.grow nI.o hb)).trans (hst.mono fun m hm=> .inr (.inr (.inr hm)));refine⟨o4,⟨_,rfl,none,none,0,0,rfl,by rw[hz1];exact Nat.le_refl _,by rw[hz2];exact Nat.le_refl _,by rw[hz1];exact ah.nil _ _ _,by rw[hz2];exact mV _ _⟩,(uU.o.mono fun m hm=> .inr (.inr (.inr hm))).trans Ms,hS5⟩
   by_cases hz:ae=0
   ·have HZ:=acr hz;have hz2:(ae !=0)=false:=by simpa using hz
    clear hz;go_wp2_with (refine aJ (by rfl) 41 _ _ (by rfl) (w.heap.size+1) (jd ⟨0,x.data.length,[],[],none⟩ none none 0 0) (by rfl) (by rfl) _ HR4.o iH rfl (iX _ _ _ _ _) ?_;intro w5 hs5;have eU:=acr hs5;clear hs5);exact kC rfl rfl rfl eU.o.1 (by rw[HRR.o,if_neg (fun h=>h HZ.o)];exact ZM.o _ _ _ acv eU.o rfl rfl)
   ·have HZ:=acr hz;have hz2:(ae !=0)=true:=by simpa using hz
    clear hz;go_wp2_with fail;refine(vD _ _).mono ?_;rintro e w5 ⟨rfl,hb5⟩;unfold pz;have iB:=acr hb5;have oM:=acr ((hb5.block _ (iL.1 HR4.o).1).trans HR4.o);clear hb5;go_wp2_with ((refine aJ (by rfl) 41 _ _ (by rfl) (w.heap.size+1) (jd (dR ae) none none 0 0) (by rfl) (by rfl) _ oM.o iH rfl (iX _ _ _ _ _) ?_);intro w6 hs6;have qw:=acr hs6;clear hs6);exact kC rfl rfl rfl qw.o.1 (by rw[HRR.o,if_pos HZ.o];exact ZM.o _ _ _ iB.o qw.o rfl rfl)
end
theorem DF{M:dQ}{n:Int}{b:Bool}{f:FW}(h:jF M n b=some f):∃m:Nat,n=m∧m<8∧M.fds m=some f∧f.wr=b:=by
 unfold jF at h;split at h
 ·rename_i hn;split at h
  ·rename_i g hg;split at h
   ·rename_i hw;cases h;exact⟨n.toNat,by omega,by omega,hg,hw⟩
   ·cases h
  ·cases h
 ·cases h
def dQ.put(M:dQ)(n:Nat)(f:Option FW):dQ:={M with fds:=fun m=>if m=n then f else M.fds m}
section
variable{W w:World}{o:Mark}{i j k l p:Nat}{M:dQ}
theorem eG.put(h:eG o i j k w p M)(hM:Marks W o w)(hk:Mk i j k l)(n:Nat)(hn:n<8)(v:Value)(f:Option FW)(hf:BO o w v f):Step o (fun m=>m=k) w o (w.setCell ⟨p,3+n,none⟩ v)∧eG o i j k (w.setCell ⟨p,3+n,none⟩ v) p (M.put n f):=by
 obtain⟨n1,n2,n3,n4,n5,n6,n7,n8,n9,n10⟩:=hk.ne;obtain⟨t,s,vv,h1,h2,h3,h4⟩:=h.at_;have hz:=size_set w ⟨p,3+n,none⟩ v;have hst:Step o (fun m=>m=k) w o (w.setCell ⟨p,3+n,none⟩ v):=⟨fun _ _=>rfl,fun b hb hn=>absurd (hM.new b hn).2 (by omega),(Keeps.gI w ⟨p,3+n,none⟩ v).mono fun x _ hx=>by
  have hx:x=p:=hx;rw[hx];exact h.own⟩
 have h0:¬(fun m=>m=k) 0:=fun e=>n3 e.symm;refine⟨hst,⟨t,s,fun m=>if m=n then v else vv m,?_,h2.step h0 n6 hst,h3.step h0 n8 hst,fun m hm=> ?_⟩,h.own,by have:=h.low;omega⟩
 ·have:=aO (i:=3+n) (v:=v) h1;rw[st_put t s M.now vv n hn v]at this;exact this
 ·show BO o _ (if m=n then v else vv m) (if m=n then f else M.fds m);by_cases hmn:m=n
  ·rw[if_pos hmn,if_pos hmn];exact hf.step h0 hst
  ·rw[if_neg hmn,if_neg hmn];exact(h4 m hm).step h0 hst
def Uh(o:Mark)(i j k l:Nat)(w:World)(p:Nat)(q:Int×dQ)(e:Ending)(w':World):Prop:=
 e= .returned (.int .i64 q.1)∧∃o',Step o (fun m=>m=i∨m=j∨m=k∨m=l) w o' w'∧eG o' i j k w' p q.2
def iZ(M:dQ)(x:jK):Int×dQ:=match jF M x.fd true with
 |some f=>if (dY M.t f.id x.aF).1≠0 then((dY M.t f.id x.aF).1,{M with t:=(dY M.t f.id x.aF).2})else(0,dQ.put {M with t:=(dY M.t f.id x.aF).2} x.fd.toNat none)
 |none=>match jF M x.fd false with
  |none=>(26,M)
  |some _=>(0,M.put x.fd.toNat none)
theorem Mt(hS:eG o i j k w p M)(hM:Marks W o w)(hk:Mk i j k l)(x:jK)(hx:nN x)(hfi:∀n f,M.fds n=some f→(Lit.int .i64 f.id).wf=true)(da:Option Addr)(dc:Nat):
  Calls Tryz.prog 76 #[ptr p,.agg (opC x da dc)] w (Uh o i j k l w p (iZ M x)):=by
 have HKK:=acr hk;have HX:=acr hx;have HM:=acr hM;have HFI:=acr hfi;have hb1:Below w.heap.size w (w.alloc (.cells (opC x da dc) 30)):=wall w _;have hM1:=hM.step (I:=fun _=>False) (fun e=>e) (Step.grow hM hb1);have hS1:=hS.grow hM hb1;have hop:(w.alloc (.cells (opC x da dc) 30)).heap[w.heap.size]? =some (.cells (opC x da dc) 30 (0,0)):=(MapKept.heap_alloc w _).1;obtain⟨w1,hw1⟩:∃w1,w1=w.alloc (.cells (opC x da dc) 30):=⟨_,rfl⟩;have HF1:acs (Calls Tryz.prog 145 #[ptr p,.int .i64 x.fd,.bool true] (w.alloc (.cells (opC x da dc) 30)) fun e w''=>w''=w1∧T_ o w1 M x.fd true e):=by rw[←hw1]at hS1⊢;exact acr (Mi hS1 x.fd true)
 rw[←hw1]at hb1 hM1 hS1 hop;unfold opC at HF1;have XJ:=acr hop;have HB1:=acr hb1;have ko:=acr hS1;have nM:=acr hM1;clear hS hM hk hx hfi hw1 hb1 hM1 hS1 hop;unfold opC;go_enter Tryz.func76,Tryz.ntmps76;go_wp2_with fail;refine HF1.o.mono ?_;rintro e w2 ⟨rfl,yM⟩;clear HF1;obtain⟨n1,n2,n3,n4,n5,n6,n7,n8,n9,n10⟩:=HKK.o.ne;have uU:acs (Step o (fun m=>m=i∨m=j∨m=k∨m=l) w o w2):=acr (Step.grow HM.o HB1.o);have c3:w2.cell? ⟨w.heap.size,3,none⟩=some (.int .i64 x.fd):=by simp[World.cell?,XJ.o,opC]
 rcases yM with⟨hg,rfl⟩|⟨f,fv,hg,rfl,hfv⟩
 ·have HG:=acr hg;have HF2:=acr (Mi ko.o x.fd false);clear hg;go_wp2_with fail;refine HF2.o.mono ?_;rintro e w3 ⟨rfl,hfd2⟩;rcases hfd2 with⟨hg2,rfl⟩|⟨f,fv,hg2,rfl,hfv⟩
  ·have hr:iZ M x=(26,M):=by unfold iZ;rw[HG.o,hg2]
   have HRR:=acr hr;clear hr hg2;go_wp2_with fail;go_ret;rw[HRR.o];exact⟨rfl,o,uU.o,ko.o⟩
  ·obtain⟨m,hm,IL,hfm,hfw⟩:=DF hg2;have hr:iZ M x=(0,M.put x.fd.toNat none):=by unfold iZ;rw[HG.o,hg2]
   rw[hm]at hr;have HRR:=acr hr;have HMD:=acr (nM.o.step (I:=fun _=>False) (fun e=>e) (Step.grow nM.o acv.drew));have og:=acr ((ko.o.grow nM.o acv.drew).put HMD.o HKK.o m IL (.pointer none) none rfl);obtain⟨t,s,v,h1,h2,h3,h4⟩:=ko.o.at_;obtain⟨z0,z1,z2,z3,z4⟩:=lq h1;have hzm:=z3 m IL;have hzf:=z4 (3+m);rw[hm]at c3;have i0:(0:Int)≤m:=by omega
   have i1:(m:Int)<8:=by omega
   clear hr hg2 hm hfm hfw hfv h1 h2 h3 h4 z0 z1 z2 z3 z4;go_wp2_with fail;refine wQ 6 ((fun w'=>w'.cell? ⟨w.heap.size,3,none⟩=some (.int .i64 m)∧w'.cell? ⟨p,3+m,none⟩=some (v m)∧w'.frozen? ⟨p,3+m,none⟩=false)) ?_ fun hS=> ?_
   ·exact⟨c3,hzm,hzf⟩
   refine aC 0 hS ?_;refine aC 1 hS ?_;refine aC 2 hS ?_;refine aC 3 hS ?_;refine aC 4 hS ?_;refine aC 5 hS ?_;refine bU 6 fun K hK=> ?_;go_simp;refine nk hK ?_;clear hS hK K;go_wp2_with fail;go_ret;rw[HRR.o];exact⟨rfl,o,((uU.o.trans (Step.grow nM.o acv.drew)).trans (og.o.1.mono fun m hm=> .inr (.inr (.inl hm)))),og.o.2⟩
 ·obtain⟨m,hm,IL,hfm,hfw⟩:=DF hg;have hr:iZ M x=if (dY M.t f.id x.aF).1≠0 then((dY M.t f.id x.aF).1,{M with t:=(dY M.t f.id x.aF).2})else(0,dQ.put {M with t:=(dY M.t f.id x.aF).2} x.fd.toNat none):=by unfold iZ;rw[hg]
  rw[hm]at hr;have Ug:=HFI.o _ _ hfm;obtain⟨q,fa,fc,rfl,hq0,hq1,hq2,hq3,hq4⟩:=hfv;obtain⟨t,s,v,h1,h2,h3,h4⟩:=(ko.o.grow nM.o acv.drew).at_;have hqd:w2.drew.heap[q]? =some (.cells #[.bool f.wr,.int .i64 f.id,.slice fa f.b.length fc] 186 (0,0)):=hq2;have hod:w2.drew.heap[w.heap.size]? =some (.cells (opC x da dc) 30 (0,0)):=XJ.o;have hMd:=nM.o.step (I:=fun _=>False) (fun e=>e) (Step.grow nM.o acv.drew);have FU:=acr (XA h3 hMd n2 f.id x.aF Ug HX.o.wt.1 HX.o.wt.2);have HC:acs (∀w':World,w'.heap[w.heap.size]? =some (.cells (opC x da dc) 30 (0,0))→w'.heap[q]? =some (.cells #[.bool f.wr,.int .i64 f.id,.slice fa f.b.length fc] 186 (0,0))→w'.heap[p]? =some (.cells (EK t s M.now v) 57 (0,0))→w'.cell? ⟨p,0,none⟩=some (ptr t)∧w'.cell? ⟨q,1,none⟩=some (.int .i64 f.id)∧w'.cell? ⟨w.heap.size,6,none⟩=some (.int .u64 x.aF)):=fun w' e1 e2 e3=>by
   refine⟨?_,?_,?_⟩<;>simp[World.cell?,e1,e2,e3,opC,EK]
  have HQ:=acr (And.intro hq0 (And.intro hq1 hqd));have QA:=acr h1;have HH2:=acr h2;have HH4:=acr h4;have ZL:=acr hod;have HMD:=acr hMd;have hps:=ko.o.low;have hos:=(iL.1 XJ.o).1;have hgo:o w.heap.size=0:=Decidable.byContradiction fun h9=>by have:=(HM.o.new _ h9).2;omega
  have F4:=acr hgo;have HRR:=acr hr;have HMI:=acr hm;obtain⟨T2,WK⟩:∃T2,T2=(dY M.t f.id x.aF).2:=⟨_,rfl⟩;obtain⟨ae,hae⟩:∃ae,ae=(dY M.t f.id x.aF).1:=⟨_,rfl⟩;rw[←hae,←WK]at FU HRR;have i0:(0:Int)≤m:=by omega
  have i1:(m:Int)<8:=by omega
  clear hg hr hm hfm hfw Ug hq0 hq2 hq3 hq4 h1 h2 h3 h4 hqd hod hMd hae WK hgo;go_wp2_with fail;refine BP ((fun w'=>w'.cell? ⟨p,0,none⟩=some (ptr t)∧w'.cell? ⟨q,1,none⟩=some (.int .i64 f.id)∧w'.cell? ⟨w.heap.size,6,none⟩=some (.int .u64 x.aF))) ?_ fun hS=> ?_
  ·exact HC.o _ ZL.o HQ.o.2.2 QA.o
  refine aX 0 hS ?_;refine aX 1 hS ?_;refine aX 2 hS ?_;refine aX 3 hS ?_;refine aX 4 hS ?_;refine aX 5 hS ?_;refine aX 6 hS ?_;refine aX 7 hS ?_;refine aX 8 hS ?_;refine aX 9 hS ?_;refine Bl 10 fun K hK=> ?_;go_simp;refine FU.o.mono ?_;rintro e w4 ⟨rfl,o4,hs4,kK⟩;have XL:¬(fun m=>m=j) 0:=fun e=>n2 e.symm;have hq4:=(hs4.block HQ.o.2.1 (by rw[HQ.o.1];exact XL)).trans HQ.o.2.2;have Fg:=(hs4.block hps (by rw[ko.o.own];exact fun e=>n8 e.symm)).trans QA.o;have ho4:=(hs4.block (b:=w.heap.size) hos (by rw[F4.o];exact XL)).trans ZL.o;have uH:=eG.tree (M:=M) HKK.o QA.o HH2.o HH4.o ko.o.own hps hs4 kK;have uX:=HMD.o.step XL hs4;have qM:=acr uH;have nI:=acr uX;have vF:=acr (uU.o.trans (Step.behind nM.o acv.drew (hs4.mono (J:=fun m=>m=i∨m=j∨m=k∨m=l) fun m hm=> .inr (.inl hm))));have Ow:=acr (HC.o _ ho4 hq4 Fg);have HMD4:=acr (uX.step (I:=fun _=>False) (fun e=>e) (Step.grow uX acv.drew));have og:=acr ((uH.grow uX acv.drew).put HMD4.o HKK.o m IL (.pointer none) none rfl);obtain⟨t',s',v',k1,k2,k3,k4⟩:=uH.at_;obtain⟨z0,z1,z2,z3,z4⟩:=lq k1;have hzm:=z3 m IL;have hzf:=z4 (3+m);have c3':w4.cell? ⟨w.heap.size,3,none⟩=some (.int .i64 m):=by rw[←HMI.o];simp[World.cell?,ho4,opC]
  clear hq4 Fg ho4 uH uX hs4 kK k1 k2 k3 k4 z0 z1 z2 z3 z4;go_wp2_with fail;refine Ag hK (Ow.o) fun hS=> ?_;clear hK K;refine aX 11 hS ?_;refine Bn ?_;clear hS c3;by_cases hz:ae=0
  ·have HZ:=acr hz;have hz2:(ae !=0)=false:=by simpa using hz
   clear hz;go_wp2_with fail;refine wQ 6 ((fun w'=>w'.cell? ⟨w.heap.size,3,none⟩=some (.int .i64 m)∧w'.cell? ⟨p,3+m,none⟩=some (v' m)∧w'.frozen? ⟨p,3+m,none⟩=false)) ?_ fun hS=> ?_
   ·exact⟨c3',hzm,hzf⟩
   refine aC 0 hS ?_;refine aC 1 hS ?_;refine aC 2 hS ?_;refine aC 3 hS ?_;refine aC 4 hS ?_;refine aC 5 hS ?_;refine bU 6 fun K hK=> ?_;go_simp;refine nk hK ?_;clear hS hK K;go_wp2_with fail;go_ret;rw[HRR.o,if_neg (fun h=>h HZ.o)];exact⟨rfl,o4,((vF.o.trans (Step.grow nI.o acv.drew)).trans (og.o.1.mono fun m hm=> .inr (.inr (.inl hm)))),og.o.2⟩
  ·have HZ:=acr hz;have hz2:(ae !=0)=true:=by simpa using hz
   clear hz;go_wp2_with fail;go_ret;rw[HRR.o,if_pos HZ.o];exact⟨rfl,o4,vF.o,qM.o⟩
end
def nC(M:dQ):Int:=match (List.range 8).find? (fun n=>(M.fds n).isNone)with|some n=>n|none=> -1
theorem JD.eq{M:dQ}{v:Int}(h:JD M v):v=nC M:=by
 unfold nC;rcases h with⟨rfl,h⟩|⟨n,hn,rfl,h1,h2⟩
 ·have:(List.range 8).find? (fun n=>(M.fds n).isNone)=none:=by
   rw[abD];intro n hn;rw[ab2]at hn;have:=h n hn;cases hf:M.fds n with
   |none=>exact absurd hf this
   |some f=>simp
  rw[this]
 ·have:(List.range 8).find? (fun n=>(M.fds n).isNone)=some n:=by
   have e:List.range 8=List.range n++n::(List.range (8-(n+1))).map (· +(n+1)):=by
    rcases (show n=0∨n=1∨n=2∨n=3∨n=4∨n=5∨n=6∨n=7 by omega)with rfl|rfl|rfl|rfl|rfl|rfl|rfl|rfl<;>rfl
   rw[e,List.find?_append];have e1:(List.range n).find? (fun n=>(M.fds n).isNone)=none:=by
    rw[abD];intro m hm;rw[ab2]at hm;have:=h2 m hm;cases hf:M.fds m with
    |none=>exact absurd hf this
    |some f=>simp
   rw[e1,List.find?_cons_of_pos (by rw[h1];rfl)];rfl
  rw[this]
def jl(M:dQ)(ls:List Nm):su×dQ:=
 if nC M<0 then(dR 25,M)else
 if (bZ M.t ls 1).1.2≠0 then(dR (bZ M.t ls 1).1.2,{M with t:=(bZ M.t ls 1).2})else
 (⟨0,nC M,[],[],none⟩,dQ.put {M with t:=(bZ M.t ls 1).2} (nC M).toNat (some ⟨true,(bZ M.t ls 1).1.1,[]⟩))
section
variable{W w:World}{o:Mark}{i j k l p:Nat}{M:dQ}
theorem JH{S:Nat→Prop}(hS:eG o i j k w p M)(hM:Marks W o w)(hk:Mk i j k l)(hok:dZ M.t)(a:Option Addr)(n c:Nat)(ls:List Nm)(hls:aT S w a n (ls.map strOf))(hnc:n≤c)(mQ:n≤1000000):
  Calls Tryz.prog 71 #[ptr p,.slice a n c] w (Ov o i j k l w p (jl M ls)):=by
 have HKK:=acr hk;have jO:=acr hok;have HM:=acr hM;have HS:=acr hS;have Ld:=acr hls;obtain⟨w2,hw2⟩:∃w2,w2=w.alloc (.cells (jd (dR 0) none none 0 0) 41):=⟨_,rfl⟩;have hb2:Below w.heap.size w w2:=by rw[hw2];exact wall w _
 have hre:w2.heap[w.heap.size]? =some (.cells (jd (dR 0) none none 0 0) 41 (0,0)):=by rw[hw2];exact(MapKept.heap_alloc w _).1
 obtain⟨n1,n2,n3,n4,n5,n6,n7,n8,n9,n10⟩:=hk.ne;obtain⟨o1,hs1,hl1,hl2⟩:=iQ HM.o l (fun b=>b=w.heap.size) (w':=w2) (fun b hb=>by subst hb;exact⟨Nat.le_refl _,(iL.1 hre).1⟩) hb2;have hS1:eG o1 i j k w2 p M:=HS.o.step (fun e=>n4 e.symm) n7 n9 n10 hs1;have hM1:Marks W o1 w2:=HM.o.step (fun e=>n4 e.symm) hs1;have xL:acs (Calls Tryz.prog 138 #[ptr p] (w.alloc (.cells (jd (dR 0) none none 0 0) 41)) fun e w''=>∃v,e= .returned (.int .i64 v)∧JD M v∧w''=w2):=by rw[←hw2];exact acr (Uf hS1)
 unfold jd dR at xL;dsimp only[List.length_nil]at xL;have uG:=acr hre;have HB2:=acr hb2;have ko:=acr hS1;have nM:=acr hM1;have yD:=acr (hl1 _ rfl);have uU:=acr hs1;clear hS hM hk hok hls hre hb2 hw2 hS1 hM1 hl1 hl2 hs1;go_enter Tryz.func71,Tryz.ntmps71;go_wp2_with fail;refine xL.o.mono ?_;rintro e w3 ⟨v,rfl,hfr,rfl⟩;have hv:=hfr.eq;clear xL;rcases hfr with⟨rfl,hfull⟩|⟨m,IL,rfl,hfm,hfl⟩
 ·have hr:jl M ls=(dR 25,M):=by unfold jl;rw[←hv,if_pos (by omega)]
  have HRR:=acr hr;clear hr hv hfull;go_wp2_with fail;refine(vD _ _).mono ?_;rintro e w4 ⟨rfl,hb4⟩;unfold pz;have eT:=acr hb4;have HR4:=acr ((hb4.block _ (iL.1 uG.o).1).trans uG.o);clear hb4;go_wp2_with (refine aJ (by rfl) 41 _ _ (by rfl) w.heap.size (jd (dR 25) none none 0 0) (by rfl) (by rfl) _ HR4.o iH rfl (iX _ _ _ _ _) ?_;intro w5 hs5;have eU:=acr hs5;clear hs5);refine kC rfl rfl rfl eU.o.1 ?_;rw[HRR.o];have uX:=nM.o.step (I:=fun _=>False) (fun e=>e) (Step.grow nM.o eT.o);have hst:=eU.o.step uX yD.o;exact⟨o1,⟨_,rfl,tC.no_ _ _ _⟩,((uU.o.trans (Step.grow nM.o eT.o)).trans hst).mono fun m hm=> .inr (.inr (.inr hm)),(ko.o.grow nM.o eT.o).step (fun e=>n4 e.symm) n7 n9 n10 hst⟩
 ·have hneg:¬((m:Int)<0):=by omega
  have hdn:decide ((m:Int)<0)=false:=by simp
  obtain⟨t,s,vv,h1,h2,h3,h4⟩:=ko.o.at_;obtain⟨z0,z1,z2,z3,z4⟩:=lq h1;have Mv:=acr (Xi h3 nM.o n2 jO.o a n c ls 1 (Ld.o.below HB2.o acu) hnc mQ);have hr:jl M ls=if (bZ M.t ls 1).1.2≠0 then(dR (bZ M.t ls 1).1.2,{M with t:=(bZ M.t ls 1).2})else(⟨0,m,[],[],none⟩,dQ.put {M with t:=(bZ M.t ls 1).2} m (some ⟨true,(bZ M.t ls 1).1.1,[]⟩)):=by
   unfold jl;rw[←hv,if_neg hneg];rfl
  have HRR:=acr hr;obtain⟨T2,WK⟩:∃T2,T2=(bZ M.t ls 1).2:=⟨_,rfl⟩;obtain⟨ae,hae⟩:∃ae,ae=(bZ M.t ls 1).1.2:=⟨_,rfl⟩;obtain⟨ai,hai⟩:∃ai,ai=(bZ M.t ls 1).1.1:=⟨_,rfl⟩;rw[←hae,←WK,←hai]at Mv HRR;have QA:=acr h1;have HH2:=acr h2;have HH4:=acr h4;have hps:=ko.o.low;have hgs:=(iL.1 uG.o).1;have HGS:=acr hgs;clear hr hv hfm hfl WK hae hai h1 h2 h3 h4 z1 z2 z3 z4;go_wp2_with fail;refine Mv.o.mono ?_;rintro e w4 ⟨rfl,o4,hs4,kK⟩;have XL:¬(fun m=>m=j) 0:=fun e=>n2 e.symm;have hr4:=(hs4.block (b:=w.heap.size) HGS.o (by rw[yD.o];exact fun e=>n9 e.symm)).trans uG.o;have uH:=eG.tree (M:=M) HKK.o QA.o HH2.o HH4.o ko.o.own hps hs4 kK;have uX:=nM.o.step XL hs4;have qM:=acr uH;have nI:=acr uX;have HL4:=acr ((hs4.old _ HGS.o).trans yD.o);have HR4:=acr hr4;have vF:=acr ((uU.o.mono (J:=fun m=>m=i∨m=j∨m=k∨m=l) fun m hm=> .inr (.inr (.inr hm))).trans (hs4.mono fun m hm=> .inr (.inl hm)));by_cases hz:ae=0
  ·have HZ:=acr hz;have hz2:(ae !=0)=false:=by simpa using hz
   clear hz hr4 uX hs4 kK z0 hneg hdn;obtain⟨t',s',v',k1,k2,k3,k4⟩:=uH.at_;have WO:Below w4.heap.size w4 (w4.alloc (.cells #[.bool true,.int .i64 ai,.slice none 0 0] 186)):=wall w4 _;have Ct:=acr (nI.o.step (I:=fun _=>False) (fun e=>e) (Step.grow nI.o WO));have hS5:=qM.o.grow nI.o WO;have hfree:o4 w4.heap.size=0:=Decidable.byContradiction fun h9=>by have:=(nI.o.new _ h9).2;omega
   have og:=acr (hS5.put Ct.o HKK.o m IL (ptr w4.heap.size) (some ⟨true,ai,[]⟩) ⟨w4.heap.size,none,0,rfl,hfree,by simp,(MapKept.heap_alloc w4 _).1,Nat.le_refl _,ah.nil _ _ _⟩);have k1':=(WO.block p qM.o.low).trans k1;obtain⟨y0,y1,y2,y3,y4⟩:=lq k1';have hzm:=y3 m IL;have hzf:=y4 (3+m);have oM:acs (((w4.alloc (.cells #[.bool true,.int .i64 ai,.slice none 0 0] 186)).setCell ⟨p,3+m,none⟩ (ptr w4.heap.size)).heap[w.heap.size]? =some (.cells (jd (dR 0) none none 0 0) 41 (0,0))):=acr ((og.o.1.block (b:=w.heap.size) (Nat.lt_of_lt_of_le (iL.1 HR4.o).1 WO.size) (by rw[HL4.o];exact fun e=>n10 e.symm)).trans ((WO.block _ (iL.1 HR4.o).1).trans HR4.o));have i0:(0:Int)≤m:=by omega
   have i1:(m:Int)<8:=by omega
   have HBO:=acr WO;clear k1 k2 k3 k4 hS5 hfree k1' y0 y1 y2 y3 y4 uH WO;go_wp2_with (refine aJ (by rfl) 41 _ _ (by rfl) w.heap.size (jd ⟨0,m,[],[],none⟩ none none 0 0) (by rfl) (by rfl) _ oM.o iH rfl (iX _ _ _ _ _) ?_;intro w6 hs6;have qw:=acr hs6;clear hs6);refine kC rfl rfl rfl qw.o.1 ?_;rw[HRR.o,if_neg (fun h=>h HZ.o)];have hM6:=Ct.o.step (I:=fun m=>m=k) (fun e=>n3 e.symm) og.o.1;have hst:=qw.o.step hM6 HL4.o;refine⟨o4,⟨_,rfl,none,none,0,0,rfl,Nat.le_refl _,Nat.le_refl _,ah.nil _ _ _,mV _ _⟩,((vF.o.trans (Step.grow nI.o HBO.o)).trans (og.o.1.mono fun m hm=> .inr (.inr (.inl hm)))).trans (hst.mono fun m hm=> .inr (.inr (.inr hm))),og.o.2.step (fun e=>n4 e.symm) n7 n9 n10 hst⟩
  ·have HZ:=acr hz;have hz2:(ae !=0)=true:=by simpa using hz
   clear hz hr4 uX hs4 kK z0 uH;go_wp2_with fail;refine(vD _ _).mono ?_;rintro e w5 ⟨rfl,hb5⟩;unfold pz;have iB:=acr hb5;have oM:=acr ((hb5.block _ (iL.1 HR4.o).1).trans HR4.o);clear hb5;go_wp2_with (refine aJ (by rfl) 41 _ _ (by rfl) w.heap.size (jd (dR ae) none none 0 0) (by rfl) (by rfl) _ oM.o iH rfl (iX _ _ _ _ _) ?_;intro w6 hs6;have qw:=acr hs6;clear hs6);refine kC rfl rfl rfl qw.o.1 ?_;rw[HRR.o,if_pos HZ.o];have Zw:=nI.o.step (I:=fun _=>False) (fun e=>e) (Step.grow nI.o iB.o);have hst:=qw.o.step Zw HL4.o;exact⟨o4,⟨_,rfl,tC.no_ _ _ _⟩,(vF.o.trans (Step.grow nI.o iB.o)).trans (hst.mono fun m hm=> .inr (.inr (.inr hm))),(qM.o.grow nI.o iB.o).step (fun e=>n4 e.symm) n7 n9 n10 hst⟩
end
def mW(M:dQ)(id:Int):Option aA:=if id=0 then some M.t else(F3 M.s id).map (·.t)
section
variable{W w:World}{o:Mark}{i j k l p:Nat}{M:dQ}
end
end Go.Proofs.YtjnhnlabpccgjaaGreatDoor
