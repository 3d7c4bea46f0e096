/- Arguments -/
import Derived.Test.YtjnhnlabpccgjaaGreatDoorM03
import Derived.Deep.Slices
import Derived.Deep.Fields
import Derived.Deep.Grids
import Derived.ChangeSame
import Derived.Lib.SmallJoins
import Derived.Test.YtjnhnlabpccgjaaGreatDoorM20
import Derived.Test.YtjnhnlabpccgjaaGreatDoorM40
import Derived.Test.YtjnhnlabpccgjaaGreatDoorM22
import Derived.Test.YtjnhnlabpccgjaaGreatDoorM01
import Derived.SliceStrings
import Derived.Shelf.Vars
import Derived.Test.YtjnhnlabpccgjaaGreatDoorM23
import Derived.Test.YtjnhnlabpccgjaaGreatDoorM16
set_option maxRecDepth 100000
set_option maxHeartbeats 64000000
set_option linter.all false
namespace Go.Proofs.YtjnhnlabpccgjaaGreatDoor
open Go.Joins Go.ChangeShapes Go.WideShapes Go.ChangeAt Go.RowKit Go.Deep
section
variable{H:Type}{enc:TypeId×Value→H}{P:Program}{w:World}{base:Nat}{spare:Nat→Bool}{held:Bool}
theorem zH{t e:TypeId}{fs:Array Field}{fuel:Nat}{cs:List Value}{x:DataW H×List MemPlace}(ht:P.underlying t=some (.slice e))(he:P.underlying e=some (.struct fs))
  (hone:oneCellFields P fs=true)(hC:P.cellsOf e=fs.size)(h:DataW.trod enc P w base spare held fuel t cs=some x):
  (cs=[.slice none 0 0]∧x=(.nil,[]))∨
  ∃(a:Addr) (len cap m:Nat) (D:Nat→DataW H) (Pl:Nat→List MemPlace),cs=[.slice (some a) len cap]∧base≤a.block∧len≤cap∧cap≤maxLen∧m=(if spare a.block then cap else len)∧
   x=(.slice ((List.range len).map D) ((List.range (m-len)).map fun j=>D (len+j)),MemPlace.row a (m*fs.size)++(List.range m).flatMap Pl)∧
   ∀i,i<m→∃(ys:List (DataW H×List MemPlace)) (n:Nat),D i= .agg (ys.map (·.1))∧Pl i=ys.flatMap (·.2)∧ys.length=fs.size∧
    ∀(j:Nat) (f:Field),fs[j]? =some f→∃(v:Value) (y:DataW H×List MemPlace),w.cell? (a.add (i*fs.size+j))=some v∧ys[j]? =some y∧DataW.trod enc P w base spare held n f.type [v]=some y:=by
 rcases open_slice ht h with h0|⟨a,len,cap,m,n,D,Pl,hcs,hb,hl,hm,hmm,hx,hi⟩
 ·exact .inl h0
 ·refine .inr ⟨a,len,cap,m,D,Pl,hcs,hb,hl,hm,hmm,by rw[hC]at hx;exact hx,fun i him=> ?_⟩;obtain⟨cs',hc,ht'⟩:=hi i him;rw[hC]at hc;obtain⟨ys,n',hn',hy,hlen,hyl,hf⟩:=DataW.trod_struct he ht';obtain⟨_,hcl,hat⟩:=World.cells?_some hc;simp only[abB]at hy;refine⟨ys,n',hy.1,hy.2,hyl,fun j f hj=> ?_⟩;obtain⟨ho,hk⟩:=hone_of hone j f hj;have hjl:j<fs.size:=(iL.1 hj).1;have hcell:=hat j hjl;have hv:cs'[j]? =some (cs'[j]'(by omega)):=List.getElem?_eq_getElem (by omega);have h1:=hf j f hj;rw[ho,hk]at h1;have hone':(cs'.drop j).take 1=[cs'[j]'(by omega)]:=by
   rw[aaO (by omega)];rfl
  rw[hone']at h1;have hys:ys[j]? =some (ys[j]'(by omega)):=List.getElem?_eq_getElem (by omega);refine⟨_,_,?_,hys,h1.trans hys⟩;rw[←Go.Deep.add_add,hcell,hv]
end
section
variable{H:Type}{enc:TypeId×Value→H}{W:World}
def byteOf(z:Int):UInt8:=UInt8.ofNat z.toNat
theorem RY{z:Int}(h:(Lit.int .u8 z).wf=true):bv (byteOf z)= .int .u8 z:=by
 simp[Lit.wf,IntKind.min,IntKind.max,IntKind.signed,IntKind.bits]at h;unfold bv byteOf;rw[UInt8.toNat_ofNat'];congr 1;omega
abbrev Old(W:World)(x:Nat):Prop:=x<W.heap.size
theorem Bw{fuel:Nat}{v:Value}{x:DataW H×List MemPlace}(h:DataW.trod enc Tryz.prog W 0 (fun _=>true) true fuel 28 [v]=some x)(l:∀p∈x.2,p.block<W.heap.size):
  ∃a len cap bs,v= .slice a len cap∧len≤cap∧ah (Old W) W a len ((bs:List UInt8).map bv):=by
 rcases open_ints Tryz.underlying28 abq (by kernel_rfl) h with⟨hcs,hx⟩|⟨a,len,cap,zs,hcs,_,hl,hm,hz,hx,hcell,hwz⟩
 ·simp only[aaU,aaI]at hcs;subst hcs;exact⟨none,0,0,[],rfl,Nat.le_refl _,ah.nil _ _ _⟩
 ·simp only[aaU,aaI]at hcs;subst hcs;subst hx;simp only[abC]at hz;refine⟨some a,len,cap,(zs.take len).map byteOf,rfl,hl,by simp;omega,by omega,fun h0=> ?_⟩;obtain⟨b,off,spot⟩:=a;have hspot:spot=none:=by simpa[Addr.add]using World.cell?_spot (hcell 0 (by omega))
  subst hspot;have hb:b<W.heap.size:=l (.cell b off) (MemPlace.mem_row.2 ⟨0,by omega,by simp⟩);refine⟨b,off,rfl,hb,hb,fun i hi=> ?_⟩;have h1:=hcell i (by omega);rw[add_plain]at h1;have hi':i<zs.length:=by omega
  rw[h1,List.map_map,List.getElem?_map,aaD,if_pos hi,List.getElem?_eq_getElem hi'];simp only[aao,Function.comp,List.getD,List.getElem?_eq_getElem hi',Option.getD_some];rw[RY (hwz _ (abQ hi'))]
end
section
variable{H:Type}{P:Program}
theorem vU{e:TypeId}:∀{l:List (DataW H)} {d:DataW H},d∈l→∀n∈d.weights P e,n∈DataW.weightsAll P e l
 |x::r,d,h,n,hn=>by
  rcases aan.1 h with rfl|h
  ·exact abx _ hn
  ·exact ab1 _ (vU h n hn)
theorem qG:∀{ts:List TypeId} {ds:List (DataW H)} {j:Nat} {t:TypeId} {d:DataW H},ts[j]? =some t→ds[j]? =some d→∀n∈d.weights P t,n∈DataW.weightsEach P ts ds
 |t'::ts,d'::ds,0,t,d,ht,hd,n,hn=>by
  simp only[aai,Pd]at ht hd;subst ht hd;exact abx _ hn
 |t'::ts,d'::ds,j+1,t,d,ht,hd,n,hn=>by
  simp only[aas]at ht hd;exact ab1 _ (qG ht hd n hn)
 |[],_,_,_,_,ht,_,_,_=>by simp at ht
 |_::_,[],_,_,_,_,hd,_,_=>by simp at hd
theorem Ir{t e:TypeId}(ht:P.underlying t=some (.slice e))(elems rest:List (DataW H)):(elems.length+rest.length)*P.bytesOf e∈(DataW.slice elems rest).weights P t:=by
 unfold DataW.weights;rw[ht];exact List.mem_cons_self
theorem Iu{t e:TypeId}(ht:P.underlying t=some (.slice e)){elems rest:List (DataW H)}{d:DataW H}(hd:d∈elems){n:Nat}(hn:n∈d.weights P e):n∈(DataW.slice elems rest).weights P t:=by
 unfold DataW.weights;rw[ht];exact ab6 _ (abx _ (vU hd n hn))
theorem Iw{t:TypeId}{fs:Array Field}(ht:P.underlying t=some (.struct fs)){parts:List (DataW H)}{j:Nat}{f:Field}{d:DataW H}(hf:fs[j]? =some f)(hd:parts[j]? =some d){n:Nat}(hn:n∈d.weights P f.type):n∈(DataW.agg parts).weights P t:=by
 unfold DataW.weights;rw[ht];refine qG (j:=j) (t:=f.type) (d:=d) ?_ hd n hn;rw[List.getElem?_map,Array.getElem?_toList,hf];rfl
end
section
variable{H:Type}{enc:TypeId×Value→H}{W:World}
theorem bytes8:Tryz.prog.bytesOf 5=1:=by kernel_rfl
theorem KM{fuel:Nat}{v:Value}{x:DataW H×List MemPlace}(h:DataW.trod enc Tryz.prog W 0 (fun _=>true) true fuel 28 [v]=some x)(l:∀p∈x.2,p.block<W.heap.size)(hw:∀n∈x.1.weights Tryz.prog 28,n≤reachBytes):
  ∃a len cap bs,v= .slice a len cap∧len≤cap∧ah (Old W) W a len ((bs:List UInt8).map bv)∧len≤140737488351232:=by
 obtain⟨a,len,cap,bs,rfl,hlc,hr⟩:=Bw h l;refine⟨a,len,cap,bs,rfl,hlc,hr,?_⟩;rcases open_ints Tryz.underlying28 abq (by kernel_rfl) h with⟨hcs,hx⟩|⟨a',len',cap',zs,hcs,_,hl,hm,hz,hx,_,_⟩
 ·simp only[aaU,aaI,aak]at hcs;obtain⟨_,rfl,_⟩:=hcs;omega
 ·simp only[aaU,aaI,aak]at hcs;obtain⟨_,rfl,_⟩:=hcs;subst hx;have h1:=hw _ (Ir Tryz.underlying28 _ _);rw[bytes8]at h1;simp only[abC]at hz;unfold lits at h1;simp only[List.length_map,List.length_take,List.length_drop]at h1;unfold reachBytes at h1;omega
end
structure KN(x:jK):Prop where
 wk:(Lit.int .i64 x.kind).wf=true
 wf:(Lit.int .i64 x.fd).wf=true
 wa:(Lit.int .i64 x.at_).wf=true
 wn:(Lit.int .i64 x.n).wf=true
 ws:(Lit.int .i64 x.snap).wf=true
 wt:0≤x.aF∧x.aF≤18446744073709551615
 wp:x.path.length≤maxLen
 wq:x.ig.length≤maxLen
 wd:x.data.length≤140737488351232
structure OpAt(W:World)(g off:Nat)(x:jK)(da:Option Addr)(dc:Nat):Prop where
 cells:W.cell? ⟨g,off,none⟩=some (.int .i64 x.kind)∧W.cell? ⟨g,off+1,none⟩=some (.string (strOf x.path))∧W.cell? ⟨g,off+2,none⟩=some (.string (strOf x.ig))∧W.cell? ⟨g,off+3,none⟩=some (.int .i64 x.fd)∧W.cell? ⟨g,off+4,none⟩=some (.int .i64 x.at_)∧W.cell? ⟨g,off+5,none⟩=some (.int .i64 x.n)∧W.cell? ⟨g,off+6,none⟩=some (.int .u64 x.aF)∧W.cell? ⟨g,off+7,none⟩=some (.int .i64 x.snap)∧W.cell? ⟨g,off+8,none⟩=some (.slice da x.data.length dc)
 ok:KN x
 cap:x.data.length≤dc
 row:ah (fun b=>b<W.heap.size) W da x.data.length (x.data.map bv)
def OpsAt(W:World)(a:Option Addr)(len:Nat):Prop:=
 len≤maxLen∧(0<len→∃b off,a=some ⟨b,off,none⟩∧b<W.heap.size∧∀k,k<len→∃x da dc,OpAt W b (off+k*9) x da dc)
theorem OpAt.up{W w:World}{g off:Nat}{x:jK}{da:Option Addr}{dc:Nat}(h:OpAt W g off x da dc)(hb:Below W.heap.size W w)(hg:g<W.heap.size):w.cell? ⟨g,off,none⟩=some (.int .i64 x.kind)∧w.cell? ⟨g,off+1,none⟩=some (.string (strOf x.path))∧w.cell? ⟨g,off+2,none⟩=some (.string (strOf x.ig))∧w.cell? ⟨g,off+3,none⟩=some (.int .i64 x.fd)∧w.cell? ⟨g,off+4,none⟩=some (.int .i64 x.at_)∧w.cell? ⟨g,off+5,none⟩=some (.int .i64 x.n)∧w.cell? ⟨g,off+6,none⟩=some (.int .u64 x.aF)∧w.cell? ⟨g,off+7,none⟩=some (.int .i64 x.snap)∧w.cell? ⟨g,off+8,none⟩=some (.slice da x.data.length dc):=by
 obtain⟨h0,h1,h2,h3,h4,h5,h6,h7,h8⟩:=h.cells;exact⟨(hb.cell (p:=⟨g,off,none⟩) hg).trans h0,(hb.cell (p:=⟨g,off+1,none⟩) hg).trans h1,(hb.cell (p:=⟨g,off+2,none⟩) hg).trans h2,(hb.cell (p:=⟨g,off+3,none⟩) hg).trans h3,(hb.cell (p:=⟨g,off+4,none⟩) hg).trans h4,(hb.cell (p:=⟨g,off+5,none⟩) hg).trans h5,(hb.cell (p:=⟨g,off+6,none⟩) hg).trans h6,(hb.cell (p:=⟨g,off+7,none⟩) hg).trans h7,(hb.cell (p:=⟨g,off+8,none⟩) hg).trans h8⟩
theorem Nt{z:Int}(h:(Lit.int .u64 z).wf=true):0≤z∧z≤18446744073709551615:=by
 simp[Lit.wf,IntKind.min,IntKind.max,IntKind.signed,IntKind.bits]at h;omega
theorem Bz(s:ByteArray):strOf s.data.toList=s:=by cases s;rfl
section
variable{H:Type}{enc:TypeId×Value→H}{W:World}
theorem VT{fuel:Nat}{v:Value}{x:DataW H×List MemPlace}(h:DataW.trod enc Tryz.prog W 0 (fun _=>true) true fuel 34 [v]=some x)(l:∀p∈x.2,p.block<W.heap.size)(hw:∀n∈x.1.weights Tryz.prog 34,n≤reachBytes):
  ∃a len cap,v= .slice a len cap∧len≤cap∧OpsAt W a len:=by
 rcases zH Tryz.underlying34 Tryz.underlying30 (by kernel_rfl) (by kernel_rfl) h with⟨hcs,hx⟩|⟨a,len,cap,m,D,Pl,hcs,_,hl,hm,hmm,hx,hi⟩
 ·simp only[aaU,aaI]at hcs;subst hcs;exact⟨none,0,0,rfl,Nat.le_refl _,by simp,fun h=>by omega⟩
 ·simp only[aaU,aaI]at hcs;subst hcs;subst hx;simp only[abC]at hmm;subst hmm;refine⟨some a,len,m,rfl,hl,by omega,fun h0=> ?_⟩;have hsub:∀(i:Nat) (ys:List (DataW H×List MemPlace)) (j:Nat) (y:DataW H×List MemPlace),i<m→Pl i=ys.flatMap (·.2)→ys[j]? =some y→∀p∈y.2,p.block<W.heap.size:=by
   intro i ys j y hi' hp hy p hpy;refine l p (ab1 _ (List.mem_flatMap.2 ⟨i,ab2.2 hi',?_⟩));rw[hp];exact List.mem_flatMap.2 ⟨y,aat hy,hpy⟩
  obtain⟨b,off,spot⟩:=a;have hspot:spot=none:=by
   obtain⟨ys,n,_,_,_,hf⟩:=hi 0 (by omega);obtain⟨v,y,hc,_⟩:=hf 0 _ rfl;simpa[Addr.add]using World.cell?_spot hc
  subst hspot;have hb:b<W.heap.size:=l (.cell b off) (abx _ (MemPlace.mem_row.2 ⟨0,by simp;omega,by simp⟩));refine⟨b,off,rfl,hb,fun k hk=> ?_⟩;obtain⟨ys,n,hD,hP,hyl,hf⟩:=hi k (by omega);obtain⟨v0,y0,c0,e0,t0⟩:=hf 0 _ rfl;obtain⟨v1,y1,c1,e1,t1⟩:=hf 1 _ rfl;obtain⟨v2,y2,c2,e2,t2⟩:=hf 2 _ rfl;obtain⟨v3,y3,c3,e3,t3⟩:=hf 3 _ rfl;obtain⟨v4,y4,c4,e4,t4⟩:=hf 4 _ rfl;obtain⟨v5,y5,c5,e5,t5⟩:=hf 5 _ rfl;obtain⟨v6,y6,c6,e6,t6⟩:=hf 6 _ rfl;obtain⟨v7,y7,c7,e7,t7⟩:=hf 7 _ rfl;obtain⟨v8,y8,c8,e8,t8⟩:=hf 8 _ rfl;obtain⟨z0,f0,_,g0⟩:=ab5 aaX t0;obtain⟨s1,f1,_,g1⟩:=DataW.trod_string abd t1;obtain⟨s2,f2,_,g2⟩:=DataW.trod_string abd t2;obtain⟨z3,f3,_,g3⟩:=ab5 aaX t3;obtain⟨z4,f4,_,g4⟩:=ab5 aaX t4;obtain⟨z5,f5,_,g5⟩:=ab5 aaX t5;obtain⟨z6,f6,_,g6⟩:=ab5 Tryz.underlying27 t6;obtain⟨z7,f7,_,g7⟩:=ab5 aaX t7;obtain⟨a8,n8,k8,bs,rfl,q8,r8,r8w⟩:=KM t8 (hsub k ys 8 y8 (by omega) hP e8) (fun n hn=>hw n (Iu Tryz.underlying34 (d:=D k) (List.mem_map.2 ⟨k,ab2.2 hk,rfl⟩) (by
   rw[hD];exact Iw Tryz.underlying30 (j:=8) rfl (d:=y8.1) (by rw[List.getElem?_map,e8];rfl) hn)))
  simp only[aaU,aaI]at f0 f1 f2 f3 f4 f5 f6 f7;subst f0 f1 f2 f3 f4 f5 f6 f7;rw[add_plain]at c0 c1 c2 c3 c4 c5 c6 c7 c8;have hbl:bs.length=n8:=by simpa using r8.length
  subst hbl;refine⟨⟨z0,s1.data.toList,s2.data.toList,z3,z4,z5,z6,z7,bs⟩,a8,k8,⟨⟨c0,?_,?_,?_,?_,?_,?_,?_,?_⟩,⟨g0,g3,g4,g5,g7,Nt g6,?_,?_,r8w⟩,q8,r8⟩⟩
  ·rw[Nat.add_assoc];dsimp only;rw[Bz];exact c1
  ·rw[Nat.add_assoc];dsimp only;rw[Bz];exact c2
  ·rw[Nat.add_assoc];exact c3
  ·rw[Nat.add_assoc];exact c4
  ·rw[Nat.add_assoc];exact c5
  ·rw[Nat.add_assoc];exact c6
  ·rw[Nat.add_assoc];exact c7
  ·rw[Nat.add_assoc];exact c8
  ·dsimp only;rw[Array.length_toList];exact g1
  ·dsimp only;rw[Array.length_toList];exact g2
end
open Go.ChangeShapes Go.WideShapes Go.ChangeAt Go.RowKit
structure Nu(x y:jK):Prop where
 kind:y.kind=x.kind
 path:y.path∈gM
 ig:y.ig∈gM
 fd:y.fd=bQ x.fd 0 3
 at_:y.at_=bQ x.at_ 0 50
 n:y.n=bQ x.n 0 60
 aF:y.aF=x.aF%12
 snap:0≤y.snap∧y.snap≤4
 data:y.data=x.data.take 40
theorem Nu.ok{x y:jK}(h:Nu x y)(hx:KN x):nN y:=by
 have h1:=nR x.fd 0 3 (by omega);have h2:=nR x.at_ 0 50 (by omega);have h3:=nR x.n 0 60 (by omega);have h4:=Bv h.path;have h5:=Bv h.ig;have h6:=hx.wt;have h7:=h.snap;refine⟨by rw[h.kind];exact hx.wk,by rw[h.fd];exact kD (by omega) (by omega),by rw[h.at_];exact kD (by omega) (by omega),by rw[h.n];exact kD (by omega) (by omega),kD (by omega) (by omega),by rw[h.aF];omega,by omega,by omega,by rw[h.data,List.length_take];omega⟩
theorem BA(z:Int):(Lit.int .i64 (IntKind.i64.wrap z)).wf=true:=by
 have h1:=Int.emod_nonneg (z+9223372036854775808) (show(18446744073709551616:Int)≠0 by omega);have h2:=Int.emod_lt_of_pos (z+9223372036854775808) (show(0:Int)<18446744073709551616 by omega);simp[Lit.wf,IntKind.wrap,IntKind.min,IntKind.max,IntKind.signed,IntKind.bits];omega
theorem ug:(Tryz.prog.info? 30).map (·.size)=some 9:=by kernel_rfl
theorem rC(x:jK)(da:Option Addr)(dc:Nat):(opC x da dc).all (·.oneCell')=true:=by simp[opC,Value.oneCell']
theorem yx{fn:Func}{sl:Nat}{Q:Ending→World→Prop}{a:Act}{w:World}{b:Nat}{x:jK}{da:Option Addr}{dc:Nat}(hf:fn.results= #[.cell sl 30])(hs:a.tmps.getD sl undef= .pointer (some ⟨b,0,none⟩))(hd:a.defers=[])(hg:w.heap[b]? =some (.cells (opC x da dc) 30 (0,0)))(hQ:Q (.returned (.agg (opC x da dc))) w):
  bodyPost Tryz.prog fn Q .ret a w:=
 aaB (v:= .agg (opC x da dc)) (za hf hs (run_loadVar_row w b 30 30 _ (0,0) _ hg Tryz.underlying30 rfl ug)) hd hQ
theorem Nv{n:Nat}(w:World)(a:Addr)(v:Value)(hn:n≤w.heap.size)(h:n≤a.block):Below n w (w.setCell a v):=
 (Keeps.gI w a v).gP hn fun x hx (e:x=a.block)=>by omega
structure uh(w w5:World)(az:Nat)(x y:jK)(da:Option Addr)(dc:Nat):Prop where
 kind:w5.cell? ⟨w.heap.size,0,none⟩=some (.int .i64 x.kind)
 snap:w5.cell? ⟨w.heap.size,7,none⟩=some (.int .i64 x.snap)
 cells:w5.heap[az]? =some (.cells (opC y da dc) 30 (0,0))
 res:w5.heap[w.heap.size+1]? =some (.cells #[.int .i64 0,.string ⟨#[]⟩,.string ⟨#[]⟩,.int .i64 0,.int .i64 0,.int .i64 0,.int .u64 0,.int .i64 0,.slice none 0 0] 30 (0,0))
 below:Below w.heap.size w w5
 ne:az≠w.heap.size+1∧az≠w.heap.size∧w.heap.size≤az
theorem uh.all{w w5:World}{az:Nat}{x y:jK}{da:Option Addr}{dc:Nat}(h:uh w w5 az x y da dc):w5.cell? ⟨az,0,none⟩=some (.int .i64 y.kind)∧w5.cell? ⟨az,1,none⟩=some (.string (strOf y.path))∧w5.cell? ⟨az,2,none⟩=some (.string (strOf y.ig))∧w5.cell? ⟨az,3,none⟩=some (.int .i64 y.fd)∧w5.cell? ⟨az,4,none⟩=some (.int .i64 y.at_)∧w5.cell? ⟨az,5,none⟩=some (.int .i64 y.n)∧w5.cell? ⟨az,6,none⟩=some (.int .u64 y.aF)∧w5.cell? ⟨az,7,none⟩=some (.int .i64 y.snap)∧w5.cell? ⟨az,8,none⟩=some (.slice da y.data.length dc)∧w5.frozen? ⟨az,7,none⟩=false:=by
 have:=h.cells;unfold opC at this;refine⟨?_,?_,?_,?_,?_,?_,?_,?_,?_,?_⟩<;>simp[World.cell?,World.frozen?,this]
theorem uh.put{w w5:World}{az:Nat}{x y:jK}{da:Option Addr}{dc:Nat}(h:uh w w5 az x y da dc):(w5.setCell ⟨az,7,none⟩ (.int .i64 0)).heap[w.heap.size+1]? =some (.cells #[.int .i64 0,.string ⟨#[]⟩,.string ⟨#[]⟩,.int .i64 0,.int .i64 0,.int .i64 0,.int .u64 0,.int .i64 0,.slice none 0 0] 30 (0,0))∧Below w.heap.size w (w5.setCell ⟨az,7,none⟩ (.int .i64 0)):=
 ⟨(bA w5 ⟨az,7,none⟩ (.int .i64 0) (w.heap.size+1) (fun e=>h.ne.1 e.symm)).trans h.res,h.below.trans (Nv w5 ⟨az,7,none⟩ (.int .i64 0) h.below.size h.ne.2.2)⟩
theorem uh.of{w w2 wb w5:World}{az:Nat}{x y:jK}{da:Option Addr}{dc:Nat}(hb2:Below w.heap.size w w2)(hop:w2.heap[w.heap.size]? =some (.cells (opC x da dc) 30 (0,0)))
  (hre:w2.heap[w.heap.size+1]? =some (.cells #[.int .i64 0,.string ⟨#[]⟩,.string ⟨#[]⟩,.int .i64 0,.int .i64 0,.int .i64 0,.int .u64 0,.int .i64 0,.slice none 0 0] 30 (0,0)))(hb:Below w2.heap.size w2 wb)(haz:w2.heap.size≤az)(hs:jH wb az (opC y da dc) 30 w5):uh w w5 az x y da dc:=by
 have h1:=(iL.1 hop).1;have h2:=(iL.1 hre).1;obtain⟨k1,k2,k3⟩:=hs;have hbs:=hb.size;have ho:w5.heap[w.heap.size]? =some (.cells (opC x da dc) 30 (0,0)):=((k2.block _ (by omega) (by omega)).trans (hb.block _ h1)).trans hop;have hbb:Below w.heap.size w w5:=jH.below ⟨k1,k2,k3⟩ (hb2.trans (hb.mono hb2.size)) (by omega);refine⟨by simp[World.cell?,ho,opC],by simp[World.cell?,ho,opC],k1,((k2.block _ (by omega) (by omega)).trans (hb.block _ h2)).trans hre,hbb,by omega⟩
def Iy(S:Nat→Prop)(w:World)(x:jK)(da:Option Addr)(e:Ending)(w':World):Prop:=
 ∃y dc',e= .returned (.agg (opC y da dc'))∧Nu x y∧y.data.length≤dc'∧ah S w' da y.data.length (y.data.map bv)∧Below w.heap.size w w'
theorem qH{S:Nat→Prop}{w w6:World}{x y:jK}{da:Option Addr}{dc:Nat}{d40:List UInt8}{s1 s2:List UInt8}(hx:KN x)(hdc:x.data.length≤dc)(hda:ah S w da x.data.length (x.data.map bv))(h4:d40=x.data.take 40)(h1:s1∈gM)(h2:s2∈gM)
  (hs:y.snap=bQ x.snap 0 4∨y.snap=0)(e1:y.kind=x.kind)(e2:(y.path,y.ig)=(s1,s2))(e3:(y.fd,y.at_,y.n)=(bQ x.fd 0 3,bQ x.at_ 0 50,bQ x.n 0 60))(e4':y.aF=x.aF.tmod 12)(e5:y.data=d40)(hb:Below w.heap.size w w6):Iy S w x da (.returned (.agg (opC y da dc))) w6:=by
 have e4:y.aF=x.aF%12:=e4'.trans (Int.tmod_eq_emod_of_nonneg hx.wt.1);obtain⟨ep,et⟩:=Prod.mk.inj e2;obtain⟨ef,e6⟩:=Prod.mk.inj e3;obtain⟨ea,en⟩:=Prod.mk.inj e6;have hb4:=nR x.snap 0 4 (by omega);have hl:y.data.length=min x.data.length 40:=by rw[e5,h4,List.length_take,Nat.min_comm]
 refine⟨y,dc,rfl,⟨e1,by rw[ep];exact h1,by rw[et];exact h2,ef,ea,en,e4,by rcases hs with h|h<;>omega,by rw[e5,h4]⟩,by omega,?_,hb⟩;have:=(hda.take 40).below hb acu;rw[hl,e5,h4,aa3];exact this
theorem ow{w2 x:World}(h:acs (Below w2.heap.size w2 x)):acs (Below w2.heap.size w2 (x.alloc (.cells #[.int .i64 0,.string ⟨#[]⟩,.string ⟨#[]⟩,.int .i64 0,.int .i64 0,.int .i64 0,.int .u64 0,.int .i64 0,.slice none 0 0] 30)))∧acs ((x.alloc (.cells #[.int .i64 0,.string ⟨#[]⟩,.string ⟨#[]⟩,.int .i64 0,.int .i64 0,.int .i64 0,.int .u64 0,.int .i64 0,.slice none 0 0] 30)).heap[x.heap.size]? =some (.cells #[.int .i64 0,.string ⟨#[]⟩,.string ⟨#[]⟩,.int .i64 0,.int .i64 0,.int .i64 0,.int .u64 0,.int .i64 0,.slice none 0 0] 30 (0,0))∧w2.heap.size≤x.heap.size):=
 ⟨Below.alloc h.o h.o.size _,(MapKept.heap_alloc _ _).1,h.o.size⟩
theorem VU{S:Nat→Prop}(w:World)(kd:Int)(pa ig:List UInt8)(fd at_ nn aF sn:Int)(dt:List UInt8)(hx:KN ⟨kd,pa,ig,fd,at_,nn,aF,sn,dt⟩)(da:Option Addr)(dc:Nat)(hdc:dt.length≤dc)(hda:ah S w da dt.length (dt.map bv)):
  Calls Tryz.prog 13 #[.agg (opC ⟨kd,pa,ig,fd,at_,nn,aF,sn,dt⟩ da dc)] w (Iy S w ⟨kd,pa,ig,fd,at_,nn,aF,sn,dt⟩ da):=by
 obtain⟨w2,hw2⟩:∃w2,w2=(w.alloc (.cells (opC ⟨kd,pa,ig,fd,at_,nn,aF,sn,dt⟩ da dc) 30)).alloc (.cells #[.int .i64 0,.string ⟨#[]⟩,.string ⟨#[]⟩,.int .i64 0,.int .i64 0,.int .i64 0,.int .u64 0,.int .i64 0,.slice none 0 0] 30):=⟨_,rfl⟩;have hb2:Below w.heap.size w w2:=by rw[hw2];exact(acv.alloc acu _).trans ((acv.alloc acu _).mono (by simp))
 have hop:w2.heap[w.heap.size]? =some (.cells (opC ⟨kd,pa,ig,fd,at_,nn,aF,sn,dt⟩ da dc) 30 (0,0)):=by
  rw[hw2];exact((acv.alloc acu _).block _ (by simp)).trans (MapKept.heap_alloc w _).1
 have hre:w2.heap[w.heap.size+1]? =some (.cells #[.int .i64 0,.string ⟨#[]⟩,.string ⟨#[]⟩,.int .i64 0,.int .i64 0,.int .i64 0,.int .u64 0,.int .i64 0,.slice none 0 0] 30 (0,0)):=by
  rw[hw2];have:=(MapKept.heap_alloc (w.alloc (.cells (opC ⟨kd,pa,ig,fd,at_,nn,aF,sn,dt⟩ da dc) 30)) (.cells #[.int .i64 0,.string ⟨#[]⟩,.string ⟨#[]⟩,.int .i64 0,.int .i64 0,.int .i64 0,.int .u64 0,.int .i64 0,.slice none 0 0] 30)).1;rw[Pe]at this;exact this
 have iW:acs (∀w3,Below w2.heap.size w2 w3→(fun w'=>w'.cell? ⟨w.heap.size,0,none⟩=some (.int .i64 kd)∧w'.cell? ⟨w.heap.size,1,none⟩=some (.string (strOf pa))∧w'.cell? ⟨w.heap.size,2,none⟩=some (.string (strOf ig))∧w'.cell? ⟨w.heap.size,3,none⟩=some (.int .i64 fd)∧w'.cell? ⟨w.heap.size,4,none⟩=some (.int .i64 at_)∧w'.cell? ⟨w.heap.size,5,none⟩=some (.int .i64 nn)∧w'.cell? ⟨w.heap.size,6,none⟩=some (.int .u64 aF)∧w'.cell? ⟨w.heap.size,7,none⟩=some (.int .i64 sn)∧w'.cell? ⟨w.heap.size,8,none⟩=some (.slice da dt.length dc)) w3):=fun w3 hb=>by
  have:=(hb.block _ (iL.1 hop).1).trans hop;unfold opC at this;refine⟨?_,?_,?_,?_,?_,?_,?_,?_,?_⟩<;>simp[World.cell?,this]
 have HX:=acr hx;have uG:=acr hre;have XJ:=acr hop;have HB2:=acr hb2;have HW2:=acr hw2;have uT:=acr hda;have WT:=acr hdc;have HZ1:acs ((Lit.int .i64 (IntKind.i64.wrap (((strOf pa).size:Int)+at_.tmod 7))).wf=true):=BA _;have HZ2:acs ((Lit.int .i64 (IntKind.i64.wrap (((strOf ig).size:Int)+nn.tmod 7))).wf=true):=BA _;obtain⟨d40,hd40⟩:∃d40,d40=dt.take 40:=⟨_,rfl⟩;have HD4:=acr hd40;have TG:acs (∀w:World,Calls Tryz.prog 17 #[.slice da dt.length dc,.int .i64 40] w fun e w'=>e= .returned (.slice da d40.length dc)∧w=w'):=fun w=>by
  have:=Iq da dt.length dc 40 hdc (by omega) hda.small w;rw[show min dt.length 40=d40.length by rw[hd40,List.length_take,Nat.min_comm]]at this;exact this
 clear hx hre hb2 hop hda hdc hd40;unfold opC at HW2;unfold opC;go_enter Tryz.func13,Tryz.ntmps13;go_wp2_with fail;rw[←HW2.o];clear HW2 hw2;refine wQ 38 ((fun w'=>w'.cell? ⟨w.heap.size,0,none⟩=some (.int .i64 kd)∧w'.cell? ⟨w.heap.size,1,none⟩=some (.string (strOf pa))∧w'.cell? ⟨w.heap.size,2,none⟩=some (.string (strOf ig))∧w'.cell? ⟨w.heap.size,3,none⟩=some (.int .i64 fd)∧w'.cell? ⟨w.heap.size,4,none⟩=some (.int .i64 at_)∧w'.cell? ⟨w.heap.size,5,none⟩=some (.int .i64 nn)∧w'.cell? ⟨w.heap.size,6,none⟩=some (.int .u64 aF)∧w'.cell? ⟨w.heap.size,7,none⟩=some (.int .i64 sn)∧w'.cell? ⟨w.heap.size,8,none⟩=some (.slice da dt.length dc))) ?_ fun hS=> ?_
 ·exact iW.o _ acv.drew
 obtain⟨x,hx0⟩:∃x,x=w2.drew:=⟨_,rfl⟩;have qN:acs (Below w2.heap.size w2 x):=by rw[hx0];exact acr acv.drew
 rw[←hx0]at hS⊢;clear hx0;refine aC 0 hS ?_;refine aC 1 hS ?_;refine aC 2 hS ?_;refine aC 3 hS ?_;refine aC 4 hS ?_;refine aC 5 hS ?_;refine aC 6 hS ?_;refine aC 7 hS ?_;refine aC 8 hS ?_;refine aC 10 hS ?_;refine aC 11 hS ?_;refine aC 12 hS ?_;refine aC 13 hS ?_;refine aC 14 hS ?_;refine aC 15 hS ?_;refine aC 16 hS ?_;refine aC 18 hS ?_;refine aC 19 hS ?_;refine aC 21 hS ?_;refine aC 22 hS ?_;refine aC 24 hS ?_;refine aC 25 hS ?_;refine aC 27 hS ?_;refine aC 28 hS ?_;refine aC 29 hS ?_;refine aC 30 hS ?_;refine aC 31 hS ?_;refine aC 33 hS ?_;refine aC 34 hS ?_;refine oI 9 37 (fun K hK=> ?_) fun K hK=> ?_;rotate_left;go_simp;obtain⟨qN,KO⟩:=ow qN;refine bV hK (iW.o _ qN.o) fun hS=> ?_;clear hK K
 all_goals (try refine bU 9 fun K hK=> ?_)
 all_goals
  go_simp;refine(KL _ HZ1.o _).mono ?_;rintro e y ⟨s1,hs,rfl,hb⟩;have BU:=acr hs
  try have KO:=acr (And.intro ((hb.block _ (iL.1 KO.o.1).1).trans KO.o.1) KO.o.2)
  have qN:=acr (qN.o.trans (hb.mono qN.o.size));clear hs hb;go_wp2_with fail;refine bV hK (iW.o _ qN.o) fun hS=> ?_;clear hK K
 rotate_right
 refine oI 17 37 (fun K hK=> ?_) fun K hK=> ?_;rotate_left;go_simp;obtain⟨qN,KO⟩:=ow qN;refine bV hK (iW.o _ qN.o) fun hS=> ?_;clear hK K
 all_goals (try refine bU 17 fun K hK=> ?_)
 all_goals
  go_simp;refine(KL _ HZ2.o _).mono ?_;rintro e y ⟨s2,hs,rfl,hb⟩;have ES:=acr hs
  try have KO:=acr (And.intro ((hb.block _ (iL.1 KO.o.1).1).trans KO.o.1) KO.o.2)
  have qN:=acr (qN.o.trans (hb.mono qN.o.size));clear hs hb;go_wp2_with fail;refine bV hK (iW.o _ qN.o) fun hS=> ?_;clear hK K
 rotate_right
 refine oI 20 37 (fun K hK=> ?_) fun K hK=> ?_;rotate_left;go_simp;obtain⟨qN,KO⟩:=ow qN;refine bV hK (iW.o _ qN.o) fun hS=> ?_;clear hK K
 all_goals (try refine bU 20 fun K hK=> ?_)
 all_goals
  go_simp;refine(nS fd 0 3 _ HX.o.wf (by omega) (by omega) (by omega)).mono ?_;rintro e _ ⟨rfl,rfl⟩;go_wp2_with fail;refine bV hK (iW.o _ qN.o) fun hS=> ?_;clear hK K
 rotate_right
 refine oI 23 37 (fun K hK=> ?_) fun K hK=> ?_;rotate_left;go_simp;obtain⟨qN,KO⟩:=ow qN;refine bV hK (iW.o _ qN.o) fun hS=> ?_;clear hK K
 all_goals (try refine bU 23 fun K hK=> ?_)
 all_goals
  go_simp;refine(nS at_ 0 50 _ HX.o.wa (by omega) (by omega) (by omega)).mono ?_;rintro e _ ⟨rfl,rfl⟩;go_wp2_with fail;refine bV hK (iW.o _ qN.o) fun hS=> ?_;clear hK K
 rotate_right
 refine oI 26 37 (fun K hK=> ?_) fun K hK=> ?_;rotate_left;go_simp;obtain⟨qN,KO⟩:=ow qN;refine bV hK (iW.o _ qN.o) fun hS=> ?_;clear hK K
 all_goals (try refine bU 26 fun K hK=> ?_)
 all_goals
  go_simp;refine(nS nn 0 60 _ HX.o.wn (by omega) (by omega) (by omega)).mono ?_;rintro e _ ⟨rfl,rfl⟩;go_wp2_with fail;refine bV hK (iW.o _ qN.o) fun hS=> ?_;clear hK K
 rotate_right
 refine oI 32 37 (fun K hK=> ?_) fun K hK=> ?_;rotate_left;go_simp;obtain⟨qN,KO⟩:=ow qN;refine bV hK (iW.o _ qN.o) fun hS=> ?_;clear hK K
 all_goals (try refine bU 32 fun K hK=> ?_)
 all_goals
  go_simp;refine(nS sn 0 4 _ HX.o.ws (by omega) (by omega) (by omega)).mono ?_;rintro e _ ⟨rfl,rfl⟩;go_wp2_with fail;refine bV hK (iW.o _ qN.o) fun hS=> ?_;clear hK K
 rotate_right
 refine oI 35 37 (fun K hK=> ?_) fun K hK=> ?_;rotate_left;go_simp;obtain⟨qN,KO⟩:=ow qN;refine bV hK (iW.o _ qN.o) fun hS=> ?_;clear hK K
 all_goals (try refine bU 35 fun K hK=> ?_)
 all_goals
  go_simp;refine(TG.o _).mono ?_;rintro e _ ⟨rfl,rfl⟩;go_wp2_with fail;refine bV hK (iW.o _ qN.o) fun hS=> ?_;clear hK K
 rotate_right
 all_goals (refine aC 36 hS ?_)
 refine bU 37 fun K hK=> ?_;go_simp;obtain⟨qN,KO⟩:=ow qN;refine bV hK (iW.o _ qN.o) fun hS=> ?_;clear hK K
 all_goals
  refine bU 38 fun K hK=> ?_;refine qy rfl 30 _ _ rfl _ (opC ⟨kd,s1,s2,bQ fd 0 3,bQ at_ 0 50,bQ nn 0 60,aF.tmod 12,bQ sn 0 4,d40⟩ da dc) rfl rfl _ KO.o.1 ug rfl (rC _ _ _) ?_;intro w5 hs5;have Cc:=acr (uh.of HB2.o XJ.o uG.o qN.o KO.o.2 hs5);clear hs5;refine nk hK ?_;clear hS hK K;have y0:=Cc.o.kind;have y7:=Cc.o.snap;obtain⟨z0,z1,z2,z3,z4,z5,z6,z7,z8,zf⟩:=Cc.o.all;dsimp only at y0 y7 z0 z1 z2 z3 z4 z5 z6 z7 z8;obtain⟨hr7,yw⟩:=Cc.o.put;have HP7:=acr (And.intro hr7 yw);clear hr7 yw;by_cases h3:kd=3
  ·subst h3;cases hs:(sn.tmod 3 !=0)
   case false=>
    go_wp2_with (refine aJ (by rfl) 30 _ _ (by rfl) (w.heap.size+1) (opC ⟨3,s1,s2,bQ fd 0 3,bQ at_ 0 50,bQ nn 0 60,aF.tmod 12,bQ sn 0 4,d40⟩ da dc) (by rfl) (by rfl) _ Cc.o.res ug rfl (rC _ _ _) ?_;intro w6 hs6;have qw:=acr hs6;clear hs6);exact yx rfl rfl rfl qw.o.1 (qH HX.o WT.o uT.o HD4.o BU.o ES.o (.inl rfl) rfl rfl rfl rfl rfl (qw.o.below Cc.o.below (acf _)))
   case true=>
    go_wp2_with (refine aJ (by rfl) 30 _ _ (by rfl) (w.heap.size+1) (opC ⟨3,s1,s2,bQ fd 0 3,bQ at_ 0 50,bQ nn 0 60,aF.tmod 12,0,d40⟩ da dc) (by rfl) (by rfl) _ HP7.o.1 ug rfl (rC _ _ _) ?_;intro w6 hs6;have qw:=acr hs6;clear hs6);exact yx rfl rfl rfl qw.o.1 (qH HX.o WT.o uT.o HD4.o BU.o ES.o (.inr rfl) rfl rfl rfl rfl rfl (qw.o.below HP7.o.2 (acf _)))
  ·have e3:(kd==3)=false:=by simpa using h3
   clear h3;by_cases h11:kd=11
   ·subst h11;cases hs:(sn.tmod 3 !=0)
    case false=>
     go_wp2_with (refine aJ (by rfl) 30 _ _ (by rfl) (w.heap.size+1) (opC ⟨11,s1,s2,bQ fd 0 3,bQ at_ 0 50,bQ nn 0 60,aF.tmod 12,bQ sn 0 4,d40⟩ da dc) (by rfl) (by rfl) _ Cc.o.res ug rfl (rC _ _ _) ?_;intro w6 hs6;have qw:=acr hs6;clear hs6);exact yx rfl rfl rfl qw.o.1 (qH HX.o WT.o uT.o HD4.o BU.o ES.o (.inl rfl) rfl rfl rfl rfl rfl (qw.o.below Cc.o.below (acf _)))
    case true=>
     go_wp2_with (refine aJ (by rfl) 30 _ _ (by rfl) (w.heap.size+1) (opC ⟨11,s1,s2,bQ fd 0 3,bQ at_ 0 50,bQ nn 0 60,aF.tmod 12,0,d40⟩ da dc) (by rfl) (by rfl) _ HP7.o.1 ug rfl (rC _ _ _) ?_;intro w6 hs6;have qw:=acr hs6;clear hs6);exact yx rfl rfl rfl qw.o.1 (qH HX.o WT.o uT.o HD4.o BU.o ES.o (.inr rfl) rfl rfl rfl rfl rfl (qw.o.below HP7.o.2 (acf _)))
   ·have e11:(kd==11)=false:=by simpa using h11
    clear h11;by_cases h12:kd=12
    ·subst h12;cases hs:(sn.tmod 3 !=0)
     case false=>
      go_wp2_with (refine aJ (by rfl) 30 _ _ (by rfl) (w.heap.size+1) (opC ⟨12,s1,s2,bQ fd 0 3,bQ at_ 0 50,bQ nn 0 60,aF.tmod 12,bQ sn 0 4,d40⟩ da dc) (by rfl) (by rfl) _ Cc.o.res ug rfl (rC _ _ _) ?_;intro w6 hs6;have qw:=acr hs6;clear hs6);exact yx rfl rfl rfl qw.o.1 (qH HX.o WT.o uT.o HD4.o BU.o ES.o (.inl rfl) rfl rfl rfl rfl rfl (qw.o.below Cc.o.below (acf _)))
     case true=>
      go_wp2_with (refine aJ (by rfl) 30 _ _ (by rfl) (w.heap.size+1) (opC ⟨12,s1,s2,bQ fd 0 3,bQ at_ 0 50,bQ nn 0 60,aF.tmod 12,0,d40⟩ da dc) (by rfl) (by rfl) _ HP7.o.1 ug rfl (rC _ _ _) ?_;intro w6 hs6;have qw:=acr hs6;clear hs6);exact yx rfl rfl rfl qw.o.1 (qH HX.o WT.o uT.o HD4.o BU.o ES.o (.inr rfl) rfl rfl rfl rfl rfl (qw.o.below HP7.o.2 (acf _)))
    ·have e12:(kd==12)=false:=by simpa using h12
     clear h12;go_wp2_with (refine aJ (by rfl) 30 _ _ (by rfl) (w.heap.size+1) (opC ⟨kd,s1,s2,bQ fd 0 3,bQ at_ 0 50,bQ nn 0 60,aF.tmod 12,bQ sn 0 4,d40⟩ da dc) (by rfl) (by rfl) _ Cc.o.res ug rfl (rC _ _ _) ?_;intro w6 hs6;have qw:=acr hs6;clear hs6);exact yx rfl rfl rfl qw.o.1 (qH HX.o WT.o uT.o HD4.o BU.o ES.o (.inl rfl) rfl rfl rfl rfl rfl (qw.o.below Cc.o.below (acf _)))
theorem VW{S:Nat→Prop}(w:World)(x:jK)(hx:KN x)(da:Option Addr)(dc:Nat)(hdc:x.data.length≤dc)(hda:ah S w da x.data.length (x.data.map bv)):
  Calls Tryz.prog 13 #[.agg (opC x da dc)] w (Iy S w x da):=by
 obtain⟨kd,pa,ig,fd,at_,nn,aF,sn,dt⟩:=x;exact VU w kd pa ig fd at_ nn aF sn dt hx da dc hdc hda
theorem KP{w:World}(h:w.ShapedOpen Tryz.prog):∃m,w.cell? ⟨0,0,none⟩=some (.int .i64 m)∧0<w.heap.size:=by
 obtain⟨m,hm⟩:=Go.Proofs.cell_of_shapedOpen_int (zero:= #[.int .i64 0]) (t:=3) h (of_decide_eq_true (by kernel_rfl)) (by kernel_rfl) rfl (by kernel_rfl) (by kernel_rfl) aaX;exact⟨m,hm,aaj w _ hm⟩
def VX:Obj→Obj
 | .cells _ t frozen=> .cells ((Go.Pinned.utf8FirstZ.map fun(n:Nat)=>Value.int .u8 (n:Int)).toArray) t frozen
 |o=>o
def RZ:Obj→Obj
 | .cells _ t frozen=> .cells ((([128,191,160,191,128,159,144,191,128,143,0,0,0,0,0,0,0,0,0,0,0,0,0,0,0,0,0,0,0,0,0,0]:List Nat).map fun(n:Nat)=>Value.int .u8 (n:Int)).toArray) t frozen
 |o=>o
noncomputable def VY (os:Os):World:=
 {World.holding Tryz.prog os ⟨#[],#[],[]⟩with heap:=((World.holding Tryz.prog os ⟨#[],#[],[]⟩).heap.modify 1 VX).modify 2 RZ}
theorem Nw{H:Type}{enc:TypeId×Value→H}{W:World}{base:Nat}{v0:Value}{d0:DataW H}{p0:List MemPlace}(h0:DataW.Trod enc Tryz.prog W 0 (fun _=>true) true 34 v0 d0 p0)(l0:∀x∈p0,x.block<W.heap.size)(o0:Value.okWide Tryz.prog W .any base 34 v0)(hw:∀n∈d0.weights Tryz.prog 34,n≤reachBytes):
  ∃a len cap,v0= .slice a len cap∧len≤cap∧OpsAt W a len:=by
 obtain⟨a0,len,cap,rfl⟩:=okWide_slice Tryz.underlying34 o0;obtain⟨fuel,hf⟩:=h0;exact VT hf l0 hw
section
variable{W w w':World}{o:Mark}{i p q:Nat}{c:Int}{M:dQ}
theorem KI.first(h:KI W o i w p q c M){m:Int}(hm:W.cell? ⟨0,0,none⟩=some (.int .i64 m))(hb:Below w.heap.size w w'):w'.cell? ⟨0,0,none⟩=some (.int .i64 m):=
 ((h.s.below.trans (hb.mono h.s.below.size)).cell (p:=⟨0,0,none⟩) (aaj W _ hm)).trans hm
end
section
variable{W w:World}{o:Mark}{i j k l n p:Nat}{M:dQ}
theorem R4{S:Nat→Prop}(hS:eG o i j k w p M)(hM:Marks W o w)(hk:ZN i j k l n)(cc:Int)(hok:fQ cc M)(hcc:cc≤1000000000)(x:jK)(hx:nN x)(da:Option Addr)(dc:Nat)(hda:ah S w da x.data.length (x.data.map bv))(m:Int)(hm:w.cell? ⟨0,0,none⟩=some (.int .i64 m))(hkk:x.kind=1∨x.kind=5∨x.kind=6∨x.kind=8):
  Calls Tryz.prog 25 #[ptr p,.agg (opC x da dc)] w (Bq o i j k l n w p (fE M x)):=by
 by_cases hp:(gu x).2=0
 ·obtain⟨kd,pa,ig,fd,at_,nn,aF,sn,dt⟩:=x;have h':kd=1∨kd=5∨kd=6∨kd=8:=hkk;rcases h' with rfl|rfl|rfl|rfl
  ·exact sdo_k1 ⟨hS,hM,hk,hok,hcc,hx,hda,hm,hp⟩
  ·exact sdo_k5 ⟨hS,hM,hk,hok,hcc,hx,hda,hm,hp⟩
  ·exact sdo_k6 ⟨hS,hM,hk,hok,hcc,hx,hda,hm,hp⟩
  ·exact sdo_k8 ⟨hS,hM,hk,hok,hcc,hx,hda,hm,hp⟩
 ·exact XT hS hM hk x hx da dc m hm hp
end
theorem st_dok{W w:World}{o:Mark}{i p:Nat}{c:Int}{M:dQ}{S:Nat→Prop}(h:Hy W o i w p c M)(hi:0<i)(hc:c≤1000000000)(x:jK)(hx:nN x)(da:Option Addr)(dc:Nat)(hda:ah S w da x.data.length (x.data.map bv))(m:Int)(hm:W.cell? ⟨0,0,none⟩=some (.int .i64 m))(hkk:x.kind=1∨x.kind=5∨x.kind=6∨x.kind=8):
  Calls Tryz.prog 25 #[ptr p,.agg (opC x da dc)] w (DoW W o i w p c M x):=by
 have hmw:w.cell? ⟨0,0,none⟩=some (.int .i64 m):=(h.marks.below.cell (p:=⟨0,0,none⟩) (aaj W _ hm)).trans hm;refine(R4 h.st h.marks (mk5 hi) c h.ok hc x hx da dc hda m hmw hkk).mono ?_;rintro e w' ⟨o',h1,hs,hS⟩;have hs5:Step o (Five i) w o' w':=hs.mono fun m hm=>OH hm;exact⟨o',h1,hs5,⟨hS,h.marks.step (fun e=>by have:=e.1;omega) hs5,h.ok.do_ x hx⟩⟩
theorem YW{W w:World}{o:Mark}{i p:Nat}{c:Int}{M:dQ}{S:Nat→Prop}(h:Hy W o i w p c M)(hi:0<i)(hc:c≤1000000000)(x:jK)(hx:nN x)(da:Option Addr)(dc:Nat)(hda:ah S w da x.data.length (x.data.map bv))(m:Int)(hm:W.cell? ⟨0,0,none⟩=some (.int .i64 m))(v:Value)(hv:v= .agg (opC x da dc))(hkk:x.kind=1∨x.kind=5∨x.kind=6∨x.kind=8):
  Calls Tryz.prog 25 #[ptr p,v] w (DoW W o i w p c M x):=by rw[hv];exact st_dok h hi hc x hx da dc hda m hm hkk
theorem O8{W w:World}{o:Mark}{i p:Nat}{c:Int}{M M':dQ}{r:su}{S:Nat→Prop}(h:Hy W o i w p c M)(hi:0<i)(hc:c≤1000000000)(x:jK)(hx:nN x)(da:Option Addr)(dc:Nat)(hda:ah S w da x.data.length (x.data.map bv))(m:Int)(hm:W.cell? ⟨0,0,none⟩=some (.int .i64 m))(v:Value)(hv:v= .agg (opC x da dc))(he:fE M x=(r,M'))(hkk:x.kind=1∨x.kind=5∨x.kind=6∨x.kind=8):
  Calls Tryz.prog 25 #[ptr p,v] w (DoE W o i w p c r M'):=by
 refine(YW h hi hc x hx da dc hda m hm v hv hkk).mono ?_;rintro e w' ⟨o',h1,h2,h3⟩;rw[he]at h1 h3;exact⟨o',h1,h2,h3⟩
theorem Eo{W w:World}{o:Mark}{i p:Nat}{c:Int}{M M':dQ}{r:su}(h:Hy W o i w p c M)(hi:0<i)(hc:c≤1000000000)(x:jK)(hx:nN x)(m:Int)(hm:W.cell? ⟨0,0,none⟩=some (.int .i64 m))(v:Value)(hv:v= .agg (opC x none 0))(hd:x.data=[])(he:fE M x=(r,M'))(hkk:x.kind=1∨x.kind=5∨x.kind=6∨x.kind=8):
  Calls Tryz.prog 25 #[ptr p,v] w (DoE W o i w p c r M'):=O8 (S:=fun _=>True) h hi hc x hx none 0 (by rw[hd];exact ah.nil _ _ _) m hm v hv he hkk
theorem R5(w:World)(m:Int)(hm:w.cell? ⟨0,0,none⟩=some (.int .i64 m)):Calls Tryz.prog 11 #[] w fun e w'=>e= .returned (.bool true)∧Below w.heap.size w w':=by
 have kc:=fun(w:World) (C:Array Value) (n c:Nat)=>Lib.run_convert_bytes_const (P:=Tryz.prog) w 28 5 C n c Tryz.underlying28 abq;have HM:=acr hm;clear hm;go_enter Tryz.func11,Tryz.ntmps11;go_wp2_with fail;refine(st_new (i:=1) (UA w) (by omega)).mono ?_;rintro e w1 ⟨ps,o1,rfl,hs1,hS1⟩;have ko:=acr hS1;clear hs1 hS1;have xL:=acr (Eo ko.o (by omega) (by omega) VK (Ip _ (by simp)) m HM.o (opA 1 ⟨#[47,97]⟩ ⟨#[]⟩ 0 0 0 0 0 none 0 0) rfl rfl k14e1 (.inl rfl));go_wp2_with fail;refine xL.o.mono ?_;rintro e w2 ⟨o2,⟨y2,rfl,da2,la2,dc2,lc2,rfl,p1,p2,p3,p4⟩,hs2,hS2⟩;have HS2:=acr hS2;have HR2:=acr (And.intro p1 (And.intro p2 (And.intro p3 p4)));clear hs2 hS2 p1 p2 p3 p4 xL ko;go_wp2_with (refine aJ (by rfl) 41 _ _ (by rfl) _ (jd O4 da2 la2 dc2 lc2) (by rfl) (by rfl) _ (MapKept.heap_alloc _ _).1 iH rfl (iX _ _ _ _ _) ?_;intro w3 hs3;have HW3:=acr hs3;clear hs3;obtain⟨hv3,hb3⟩:=CG HS2.o.marks HR2.o.1 HR2.o.2.1 HR2.o.2.2.1 HR2.o.2.2.2 HW3.o;have HV3:=acr hv3;have qM:=acr (HS2.o.grow hb3);clear HS2;clear hv3 hb3 HW3 HR2);have hb5:Below w3.heap.size w3 (w3.alloc (.cells #[.int .u8 120,.int .u8 121,.int .u8 122] 5 (3,4))):=wall w3 _;have HV6:=acr (HV3.o.grow qM.o.marks hb5);clear HV3;have HS7:=acr (qM.o.grow hb5);clear qM;clear hb5;have HC8:=acr (O8 HS7.o (by omega) (by omega) VL (Ip _ (by simp)) (some ⟨w3.heap.size,0,none⟩) 3 (VI (([120,121,122]:List UInt8).map bv) _ (3,4) (by decide)) m HM.o (opA 5 ⟨#[]⟩ ⟨#[]⟩ 0 0 0 0 0 (some ⟨w3.heap.size,0,none⟩) 3 3) rfl k14e2 (.inr (.inl rfl)));go_wp2_with fail;refine HC8.o.mono ?_;rintro e w8 ⟨o8,⟨y8,rfl,da8,la8,dc8,lc8,rfl,p1,p2,p3,p4⟩,BL,hS8⟩;have Lc:=acr hS8;have D9:=acr (And.intro p1 (And.intro p2 (And.intro p3 p4)));have HV9:=acr (HV6.o.five (by omega) BL);clear HV6;clear BL hS8 p1 p2 p3 p4 HC8 HS7;go_wp2_with (refine aJ (by rfl) 41 _ _ (by rfl) _ (jd VP da8 la8 dc8 lc8) (by rfl) (by rfl) _ (MapKept.heap_alloc _ _).1 iH rfl (iX _ _ _ _ _) ?_;intro Oq vR;have HW10:=acr vR;clear vR;obtain⟨hv10,vV⟩:=CG Lc.o.marks D9.o.1 D9.o.2.1 D9.o.2.2.1 D9.o.2.2.2 HW10.o;have HV10:=acr hv10;have HV11:=acr (HV9.o.grow Lc.o.marks vV);clear HV9;have HS12:=acr (Lc.o.grow vV);clear Lc;clear hv10 vV HW10 D9);have HC13:=acr (Eo HS12.o (by omega) (by omega) VN (Ip _ (by simp)) m HM.o (opA 6 ⟨#[]⟩ ⟨#[]⟩ 0 0 0 9 0 none 0 0) rfl rfl k14e3 (.inr (.inr (.inl rfl))));go_wp2_with fail;refine HC13.o.mono ?_;rintro e w13 ⟨o13,⟨y13,rfl,da13,la13,dc13,lc13,rfl,p1,p2,p3,p4⟩,hs13,hS13⟩;have VZ:=acr hS13;have KQ:=acr (And.intro p1 (And.intro p2 (And.intro p3 p4)));have HV14:=acr (HV11.o.five (by omega) hs13);clear HV11;have HV15:=acr (HV10.o.five (by omega) hs13);clear HV10;clear hs13 hS13 p1 p2 p3 p4 HC13 HS12;go_wp2_with (refine aJ (by rfl) 41 _ _ (by rfl) _ (jd VQ da13 la13 dc13 lc13) (by rfl) (by rfl) _ (MapKept.heap_alloc _ _).1 iH rfl (iX _ _ _ _ _) ?_;intro w16 hs16;have HW16:=acr hs16;clear hs16;obtain⟨hv16,Ce⟩:=CG VZ.o.marks KQ.o.1 KQ.o.2.1 KQ.o.2.2.1 KQ.o.2.2.2 HW16.o;have HV16:=acr hv16;have HV17:=acr (HV14.o.grow VZ.o.marks Ce);clear HV14;have HV18:=acr (HV15.o.grow VZ.o.marks Ce);clear HV15;have HS19:=acr (VZ.o.grow Ce);clear VZ;clear hv16 Ce HW16 KQ);have HC20:=acr (Eo HS19.o (by omega) (by omega) VO (Ip _ (by simp)) m HM.o (opA 8 ⟨#[47,97]⟩ ⟨#[]⟩ 0 0 0 0 0 none 0 0) rfl rfl k14e4 (.inr (.inr (.inr rfl))));go_wp2_with fail;refine HC20.o.mono ?_;rintro e w20 ⟨o20,⟨y20,rfl,da20,la20,dc20,lc20,rfl,p1,p2,p3,p4⟩,YX,hS20⟩;have R6:=acr hS20;have V3:=acr (And.intro p1 (And.intro p2 (And.intro p3 p4)));have HV21:=acr (HV17.o.five (by omega) YX);clear HV17;have HV22:=acr (HV18.o.five (by omega) YX);clear HV18;have HV23:=acr (HV16.o.five (by omega) YX);clear HV16;clear YX hS20 p1 p2 p3 p4 HC20 HS19;go_wp2_with (refine aJ (by rfl) 41 _ _ (by rfl) _ (jd VR da20 la20 dc20 lc20) (by rfl) (by rfl) _ (MapKept.heap_alloc _ _).1 iH rfl (iX _ _ _ _ _) ?_;intro w24 hs24;have HW24:=acr hs24;clear hs24;obtain⟨hv24,V4⟩:=CG R6.o.marks V3.o.1 V3.o.2.1 V3.o.2.2.1 V3.o.2.2.2 HW24.o;have HV24:=acr hv24;have HV25:=acr (HV21.o.grow R6.o.marks V4);clear HV21;have HV26:=acr (HV22.o.grow R6.o.marks V4);clear HV22;have HV27:=acr (HV23.o.grow R6.o.marks V4);clear HV23;have HS28:=acr (R6.o.grow V4);clear R6;clear hv24 V4 HW24 V3;have c1:=HV25.o.er;rw[k14f1]at c1;have c2:=HV25.o.n;rw[k14f2]at c2;have c3:=HV26.o.n;rw[k14f3]at c3;have c4:=HV27.o.er;rw[k14f4]at c4;have c5:=HV24.o.er;rw[k14f5]at c5);go_ret;exact⟨rfl,HS28.o.below⟩
def uj(l:List UInt8):Int:=l.foldl (fun n c=>n*256+(c.toNat:Int)) 0
theorem zI(l:List UInt8)(c:UInt8):uj (l++[c])=uj l*256+(c.toNat:Int):=by unfold uj;rw[List.foldl_append];rfl
theorem V5:uj []=0:=rfl
theorem GD{α:Type}(l:List α)(k:Nat)(h:l.length=k+1):∃l' c,l=l'++[c]∧l'.length=k:=by
 have hne:l≠[]:=fun e=>by rw[e]at h;cases h
 exact⟨l.dropLast,l.getLast hne,(List.dropLast_concat_getLast hne).symm,by rw[abN];omega⟩
theorem um:∀(k:Nat) (l:List UInt8),l.length=k→0≤uj l∧uj l<256^k
 |0,l,h=>by rw[aad h];simp[uj]
 |k+1,l,h=>by
  obtain⟨l',c,rfl,h'⟩:=GD l k h;obtain⟨h1,h2⟩:=um k l' h';have hc:(c.toNat:Int)≤255:=by have:=c.toNat_lt;omega
  rw[zI,Int.pow_succ];generalize (256:Int)^k=P at*;omega
theorem Ep:∀(k:Nat) (n:Int),0≤n→eB n (k+1)=eB (n/256) k++[UInt8.ofNat ((n%256).toNat)]
 |0,n,h0=>by
  show[UInt8.ofNat ((n/2^(8*0)).toNat%256)]=[UInt8.ofNat ((n%256).toNat)];congr 2;simp;omega
 |k+1,n,h0=>by
  have h:=Ep k n h0;rw[eB,h];show _=(UInt8.ofNat ((n/256/2^(8*k)).toNat%256)::eB (n/256) k)++_;rw[ab7];congr 4;rw[Int.ediv_ediv_of_nonneg (by decide),show(2:Int)^(8*(k+1))=256*2^(8*k)by rw[Nat.mul_add,Int.pow_add,Int.mul_comm];rfl]
theorem O9:∀(k:Nat) (n:Int),0≤n→n<256^k→uj (eB n k)=n
 |0,n,h0,h1=>by simp only[Int.pow_zero]at h1;simp only[eB,V5];omega
 |k+1,n,h0,h1=>by
  rw[Ep k n h0,zI,O9 k (n/256) (by omega) (by rw[Int.pow_succ]at h1;generalize (256:Int)^k=P at*;omega)];have:(UInt8.ofNat (n%256).toNat).toNat=(n%256).toNat:=by simp;omega
  rw[this];omega
theorem O_:∀(k:Nat) (l:List UInt8),l.length=k→eB (uj l) k=l
 |0,l,h=>(aad h).symm
 |k+1,l,h=>by
  obtain⟨l',c,rfl,h'⟩:=GD l k h;obtain⟨h1,h2⟩:=um k l' h';have hc:(c.toNat:Int)≤255:=by have:=c.toNat_lt;omega
  rw[zI,Ep _ _ (by omega),show(uj l'*256+(c.toNat:Int))/256=uj l' by omega,O_ k l' h',show((uj l'*256+(c.toNat:Int))%256).toNat=c.toNat by omega];simp
abbrev Rd:=List UInt8×Int
def gH(s:Rd)(n:Int):List UInt8×Rd:=
 if s.2≠0 then([],s)else if (s.1.length:Int)<n then([],(s.1,10))else if n<1 then([],s)else(s.1.take n.toNat,(s.1.drop n.toNat,0))
def bq(s:Rd)(k:Nat):Int×Rd:=(uj (gH s k).1,(gH s k).2)
def uK(s:Rd):Bool×Rd:=(decide ((bq s 1).1=1),if 1<(bq s 1).1 then((bq s 1).2.1,12)else(bq s 1).2)
def aL(s:Rd):List UInt8×Rd:=gH (bq s 2).2 (bq s 2).1
def fq(s:Rd):Nat:=if s.2≠0 then 0 else s.1.length
def pG(s:Rd):Int:=if s.2=0∧0<s.1.length then 11 else s.2
theorem GH{s:Rd}(h:s.2≠0)(n:Int):gH s n=([],s):=by unfold gH;rw[if_pos h]
theorem CJ{s:Rd}{n:Int}(h0:0≤n)(h:(gH s n).2.2=0):s.2=0∧s.1=(gH s n).1++(gH s n).2.1∧((gH s n).1.length:Int)=n:=by
 by_cases h1:s.2≠0
 ·rw[GH h1]at h;exact absurd h h1
 ·have h1:s.2=0:=Decidable.not_not.1 h1;unfold gH at h⊢;rw[if_neg (by simp[h1])]at h⊢;by_cases h2:(s.1.length:Int)<n
  ·rw[if_pos h2]at h;cases h
  ·rw[if_neg h2]at h⊢;by_cases h3:n<1
   ·rw[if_pos h3];exact⟨h1,rfl,by simp;omega⟩
   ·rw[if_neg h3];refine⟨h1,(aaR _ _).symm,?_⟩;simp only[List.length_take];omega
theorem vW(l r:List UInt8)(n:Int)(hn:n=l.length):gH (l++r,0) n=(l,(r,0)):=by
 subst hn;unfold gH;rw[if_neg (by simp),if_neg (by simp only[List.length_append];omega)];by_cases h:(l.length:Int)<1
 ·have:l=[]:=aad (by omega);subst this;rw[if_pos (by simp)];rfl
 ·rw[if_neg h];simp
theorem h_{s:Rd}{k:Nat}(h:(bq s k).2.2=0):s.2=0∧s.1=eB (bq s k).1 k++(bq s k).2.1∧0≤(bq s k).1∧(bq s k).1<256^k:=by
 obtain⟨h1,h2,h3⟩:=CJ (s:=s) (n:=k) (by omega) h;have h4:(gH s k).1.length=k:=by omega
 refine⟨h1,?_,um k _ h4⟩;unfold bq;rw[O_ k _ h4];exact h2
theorem gW(k:Nat)(n:Int)(r:List UInt8)(h0:0≤n)(h1:n<256^k):bq (eB n k++r,0) k=(n,(r,0)):=by
 unfold bq;rw[vW (eB n k) r k (by rw[bB]),O9 k n h0 h1]
theorem eD(s:Rd)(k:Nat):0≤(bq s k).1∧(bq s k).1<256^k:=by
 by_cases h:(bq s k).2.2=0
 ·exact(h_ h).2.2
 ·have hp:(0:Int)<256^k:=Int.pow_pos (by decide);have:(gH s k).1=[]:=by
   unfold bq at h;unfold gH at h⊢;split
   ·rfl
   ·rename_i h1;rw[if_neg h1]at h;split
    ·rfl
    ·rename_i h2;rw[if_neg h2]at h;split
     ·rfl
     ·rename_i h3;rw[if_neg h3]at h;exact absurd rfl h
  unfold bq;rw[this];exact⟨aaS _,hp⟩
theorem V6{s:Rd}(h:(uK s).2.2=0):s.2=0∧s.1=ql (uK s).1++(uK s).2.1:=by
 unfold uK at h⊢;by_cases h1:1<(bq s 1).1
 ·rw[if_pos h1]at h;cases h
 ·rw[if_neg h1]at h⊢;obtain⟨e1,e2,e3,e4⟩:=h_ h;refine⟨e1,?_⟩;unfold ql;by_cases h2:(bq s 1).1=1
  ·rw[h2]at e2;simp only[h2,decide_true,abC];exact e2
  ·have h3:(bq s 1).1=0:=by omega
   rw[h3]at e2;simp only[h3];exact e2
theorem R7(f:Bool)(r:List UInt8):uK (ql f++r,0)=(f,(r,0)):=by
 unfold uK ql;cases f
 ·rw[gW 1 _ r (by decide) (by decide)];rfl
 ·rw[gW 1 _ r (by decide) (by decide)];rfl
theorem mE{s:Rd}(h:(aL s).2.2=0):s.2=0∧s.1=mG (aL s).1++(aL s).2.1∧(aL s).1.length≤65535:=by
 have hr:=eD s 2;unfold aL at h⊢;obtain⟨h1,h2,h3⟩:=CJ hr.1 h;obtain⟨h4,h5,h6,h7⟩:=h_ h1;refine⟨h4,?_,by have:(256:Int)^2=65536:=rfl;omega⟩;unfold mG;rw[h3,TK,←h2];exact h5
theorem qI(l r:List UInt8)(h:l.length≤65535):aL (mG l++r,0)=(l,(r,0)):=by
 unfold aL mG;rw[TK,gW 2 _ _ (by omega) (by have:(256:Int)^2=65536:=rfl;omega)];exact vW l r _ rfl
end Go.Proofs.YtjnhnlabpccgjaaGreatDoor
