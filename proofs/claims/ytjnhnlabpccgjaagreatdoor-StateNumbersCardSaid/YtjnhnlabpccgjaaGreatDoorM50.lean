/- Arguments -/
import Derived.Test.YtjnhnlabpccgjaaGreatDoorM03
import Derived.Deep.Slices
import Derived.Deep.Fields
import Derived.Deep.Grids
import Derived.ChangeSame
import Derived.Lib.SmallJoins
import Derived.Test.YtjnhnlabpccgjaaGreatDoorM25
import Derived.Test.YtjnhnlabpccgjaaGreatDoorM49
import Derived.Test.YtjnhnlabpccgjaaGreatDoorM29
import Derived.Test.YtjnhnlabpccgjaaGreatDoorM01
import Derived.SliceStrings
import Derived.Shelf.Vars
set_option maxRecDepth 100000
set_option maxHeartbeats 64000000
set_option linter.all false
namespace Go.Proofs.YtjnhnlabpccgjaaGreatDoor
open Go.Joins Go.ChangeShapes Go.WideShapes Go.ChangeAt Go.RowKit Go.Deep
section
variable{H:Type}{enc:TypeId×Value→H}{P:Program}{w:World}{base:Nat}{spare:Nat→Bool}{held:Bool}
theorem zJ{t e:TypeId}{fs:Array Field}{fuel:Nat}{cs:List Value}{x:DataW H×List MemPlace}(ht:P.underlying t=some (.slice e))(he:P.underlying e=some (.struct fs))
  (hone:oneCellFields P fs=true)(hC:P.cellsOf e=fs.size)(h:DataW.trod enc P w base spare held fuel t cs=some x):
  (cs=[.slice none 0 0]∧x=(.nil,[]))∨
  ∃(a:Addr) (len cap m:Nat) (D:Nat→DataW H) (Pl:Nat→List MemPlace),cs=[.slice (some a) len cap]∧base≤a.block∧len≤cap∧cap≤maxLen∧m=(if spare a.block then cap else len)∧
   x=(.slice ((List.range len).map D) ((List.range (m-len)).map fun j=>D (len+j)),MemPlace.row a (m*fs.size)++(List.range m).flatMap Pl)∧
   ∀i,i<m→∃(ys:List (DataW H×List MemPlace)) (n:Nat),D i= .agg (ys.map (·.1))∧Pl i=ys.flatMap (·.2)∧ys.length=fs.size∧
    ∀(j:Nat) (f:Field),fs[j]? =some f→∃(v:Value) (y:DataW H×List MemPlace),w.cell? (a.add (i*fs.size+j))=some v∧ys[j]? =some y∧DataW.trod enc P w base spare held n f.type [v]=some y:=by
 rcases open_slice ht h with h0|⟨a,len,cap,m,n,D,Pl,hcs,hb,hl,hm,hmm,hx,hi⟩
 ·exact .inl h0
 ·refine .inr ⟨a,len,cap,m,D,Pl,hcs,hb,hl,hm,hmm,by rw[hC]at hx;exact hx,fun i him=> ?_⟩;obtain⟨cs',hc,ht'⟩:=hi i him;rw[hC]at hc;obtain⟨ys,n',hn',hy,hlen,hyl,hf⟩:=DataW.trod_struct he ht';obtain⟨_,hcl,hat⟩:=World.cells?_some hc;simp only[Prod.mk.injEq]at hy;refine⟨ys,n',hy.1,hy.2,hyl,fun j f hj=> ?_⟩;obtain⟨ho,hk⟩:=hone_of hone j f hj;have hjl:j<fs.size:=(iA.1 hj).1;have hcell:=hat j hjl;have hv:cs'[j]? =some (cs'[j]'(by omega)):=List.getElem?_eq_getElem (by omega);have h1:=hf j f hj;rw[ho,hk]at h1;have hone':(cs'.drop j).take 1=[cs'[j]'(by omega)]:=by
   rw[aa2 (by omega)];rfl
  rw[hone']at h1;have hys:ys[j]? =some (ys[j]'(by omega)):=List.getElem?_eq_getElem (by omega);refine⟨_,_,?_,hys,h1.trans hys⟩;rw[←Go.Deep.add_add,hcell,hv]
end
section
variable{H:Type}{enc:TypeId×Value→H}{W:World}
def byteOf(z:Int):UInt8:=UInt8.ofNat z.toNat
theorem Rm{z:Int}(h:(Lit.int .u8 z).wf=true):bv (byteOf z)= .int .u8 z:=by
 simp[Lit.wf,IntKind.min,IntKind.max,IntKind.signed,IntKind.bits]at h;unfold bv byteOf;rw[UInt8.toNat_ofNat'];congr 1;omega
abbrev Old(W:World)(x:Nat):Prop:=x<W.heap.size
theorem KT{fuel:Nat}{v:Value}{x:DataW H×List MemPlace}(h:DataW.trod enc Tryz.prog W 0 (fun _=>true) true fuel 28 [v]=some x)(l:∀p∈x.2,p.block<W.heap.size):
  ∃a len cap bs,v= .slice a len cap∧len≤cap∧ah (Old W) W a len ((bs:List UInt8).map bv):=by
 rcases open_ints Tryz.underlying28 abr (by kernel_rfl) h with⟨hcs,hx⟩|⟨a,len,cap,zs,hcs,_,hl,hm,hz,hx,hcell,hwz⟩
 ·simp only[aa6,aaI]at hcs;subst hcs;exact⟨none,0,0,[],rfl,Nat.le_refl _,ah.nil _ _ _⟩
 ·simp only[aa6,aaI]at hcs;subst hcs;subst hx;simp only[if_true]at hz;refine⟨some a,len,cap,(zs.take len).map byteOf,rfl,hl,by simp;omega,by omega,fun h0=> ?_⟩;obtain⟨b,off,spot⟩:=a;have hspot:spot=none:=by simpa[Addr.add]using World.cell?_spot (hcell 0 (by omega))
  subst hspot;have hb:b<W.heap.size:=l (.cell b off) (MemPlace.mem_row.2 ⟨0,by omega,by simp⟩);refine⟨b,off,rfl,hb,hb,fun i hi=> ?_⟩;have h1:=hcell i (by omega);rw[add_plain]at h1;have hi':i<zs.length:=by omega
  rw[h1,List.map_map,List.getElem?_map,aaC,if_pos hi,List.getElem?_eq_getElem hi'];simp only[aat,Function.comp,List.getD,List.getElem?_eq_getElem hi',Option.getD_some];rw[Rm (hwz _ (abP hi'))]
end
section
variable{H:Type}{P:Program}
theorem wm{e:TypeId}:∀{l:List (DataW H)} {d:DataW H},d∈l→∀n∈d.weights P e,n∈DataW.weightsAll P e l
 |x::r,d,h,n,hn=>by
  rcases aay.1 h with rfl|h
  ·exact abz _ hn
  ·exact ab4 _ (wm h n hn)
theorem nP:∀{ts:List TypeId} {ds:List (DataW H)} {j:Nat} {t:TypeId} {d:DataW H},ts[j]? =some t→ds[j]? =some d→∀n∈d.weights P t,n∈DataW.weightsEach P ts ds
 |t'::ts,d'::ds,0,t,d,ht,hd,n,hn=>by
  simp only[aao,aac]at ht hd;subst ht hd;exact abz _ hn
 |t'::ts,d'::ds,j+1,t,d,ht,hd,n,hn=>by
  simp only[aav]at ht hd;exact ab4 _ (nP ht hd n hn)
 |[],_,_,_,_,ht,_,_,_=>by simp at ht
 |_::_,[],_,_,_,_,hd,_,_=>by simp at hd
theorem Ir{t e:TypeId}(ht:P.underlying t=some (.slice e))(elems rest:List (DataW H)):(elems.length+rest.length)*P.bytesOf e∈(DataW.slice elems rest).weights P t:=by
 unfold DataW.weights;rw[ht];exact List.mem_cons_self
theorem Iu{t e:TypeId}(ht:P.underlying t=some (.slice e)){elems rest:List (DataW H)}{d:DataW H}(hd:d∈elems){n:Nat}(hn:n∈d.weights P e):n∈(DataW.slice elems rest).weights P t:=by
 unfold DataW.weights;rw[ht];exact acd _ (abz _ (wm hd n hn))
theorem Iw{t:TypeId}{fs:Array Field}(ht:P.underlying t=some (.struct fs)){parts:List (DataW H)}{j:Nat}{f:Field}{d:DataW H}(hf:fs[j]? =some f)(hd:parts[j]? =some d){n:Nat}(hn:n∈d.weights P f.type):n∈(DataW.agg parts).weights P t:=by
 unfold DataW.weights;rw[ht];refine nP (j:=j) (t:=f.type) (d:=d) ?_ hd n hn;rw[List.getElem?_map,Array.getElem?_toList,hf];rfl
end
section
variable{H:Type}{enc:TypeId×Value→H}{W:World}
theorem bytes8:Tryz.prog.bytesOf 5=1:=by kernel_rfl
theorem KU{fuel:Nat}{v:Value}{x:DataW H×List MemPlace}(h:DataW.trod enc Tryz.prog W 0 (fun _=>true) true fuel 28 [v]=some x)(l:∀p∈x.2,p.block<W.heap.size)(hw:∀n∈x.1.weights Tryz.prog 28,n≤reachBytes):
  ∃a len cap bs,v= .slice a len cap∧len≤cap∧ah (Old W) W a len ((bs:List UInt8).map bv)∧len≤140737488351232:=by
 obtain⟨a,len,cap,bs,rfl,hlc,hr⟩:=KT h l;refine⟨a,len,cap,bs,rfl,hlc,hr,?_⟩;rcases open_ints Tryz.underlying28 abr (by kernel_rfl) h with⟨hcs,hx⟩|⟨a',len',cap',zs,hcs,_,hl,hm,hz,hx,_,_⟩
 ·simp only[aa6,aaI,aar]at hcs;obtain⟨_,rfl,_⟩:=hcs;omega
 ·simp only[aa6,aaI,aar]at hcs;obtain⟨_,rfl,_⟩:=hcs;subst hx;have h1:=hw _ (Ir Tryz.underlying28 _ _);rw[bytes8]at h1;simp only[if_true]at hz;unfold lits at h1;simp only[List.length_map,aan,aaM]at h1;unfold reachBytes at h1;omega
end
structure Et(x:jD):Prop where
 wk:(Lit.int .i64 x.kind).wf=true
 wf:(Lit.int .i64 x.fd).wf=true
 wa:(Lit.int .i64 x.at_).wf=true
 wn:(Lit.int .i64 x.n).wf=true
 ws:(Lit.int .i64 x.snap).wf=true
 wt:0≤x.aA∧x.aA≤18446744073709551615
 wp:x.path.length≤maxLen
 wq:x.dD.length≤maxLen
 wd:x.data.length≤140737488351232
structure OpAt(W:World)(g off:Nat)(x:jD)(da:Option Addr)(dc:Nat):Prop where
 cells:W.cell? ⟨g,off,none⟩=some (.int .i64 x.kind)∧W.cell? ⟨g,off+1,none⟩=some (.string (strOf x.path))∧W.cell? ⟨g,off+2,none⟩=some (.string (strOf x.dD))∧W.cell? ⟨g,off+3,none⟩=some (.int .i64 x.fd)∧W.cell? ⟨g,off+4,none⟩=some (.int .i64 x.at_)∧W.cell? ⟨g,off+5,none⟩=some (.int .i64 x.n)∧W.cell? ⟨g,off+6,none⟩=some (.int .u64 x.aA)∧W.cell? ⟨g,off+7,none⟩=some (.int .i64 x.snap)∧W.cell? ⟨g,off+8,none⟩=some (.slice da x.data.length dc)
 ok:Et x
 cap:x.data.length≤dc
 row:ah (fun b=>b<W.heap.size) W da x.data.length (x.data.map bv)
def ZG(W:World)(a:Option Addr)(len:Nat):Prop:=
 len≤maxLen∧(0<len→∃b off,a=some ⟨b,off,none⟩∧b<W.heap.size∧∀k,k<len→∃x da dc,OpAt W b (off+k*9) x da dc)
theorem OpAt.up{W w:World}{g off:Nat}{x:jD}{da:Option Addr}{dc:Nat}(h:OpAt W g off x da dc)(hb:Below W.heap.size W w)(hg:g<W.heap.size):w.cell? ⟨g,off,none⟩=some (.int .i64 x.kind)∧w.cell? ⟨g,off+1,none⟩=some (.string (strOf x.path))∧w.cell? ⟨g,off+2,none⟩=some (.string (strOf x.dD))∧w.cell? ⟨g,off+3,none⟩=some (.int .i64 x.fd)∧w.cell? ⟨g,off+4,none⟩=some (.int .i64 x.at_)∧w.cell? ⟨g,off+5,none⟩=some (.int .i64 x.n)∧w.cell? ⟨g,off+6,none⟩=some (.int .u64 x.aA)∧w.cell? ⟨g,off+7,none⟩=some (.int .i64 x.snap)∧w.cell? ⟨g,off+8,none⟩=some (.slice da x.data.length dc):=by
 obtain⟨h0,h1,h2,h3,h4,h5,h6,h7,h8⟩:=h.cells;exact⟨(hb.cell (p:=⟨g,off,none⟩) hg).trans h0,(hb.cell (p:=⟨g,off+1,none⟩) hg).trans h1,(hb.cell (p:=⟨g,off+2,none⟩) hg).trans h2,(hb.cell (p:=⟨g,off+3,none⟩) hg).trans h3,(hb.cell (p:=⟨g,off+4,none⟩) hg).trans h4,(hb.cell (p:=⟨g,off+5,none⟩) hg).trans h5,(hb.cell (p:=⟨g,off+6,none⟩) hg).trans h6,(hb.cell (p:=⟨g,off+7,none⟩) hg).trans h7,(hb.cell (p:=⟨g,off+8,none⟩) hg).trans h8⟩
theorem Np{z:Int}(h:(Lit.int .u64 z).wf=true):0≤z∧z≤18446744073709551615:=by
 simp[Lit.wf,IntKind.min,IntKind.max,IntKind.signed,IntKind.bits]at h;omega
theorem BF(s:ByteArray):strOf s.data.toList=s:=by cases s;rfl
section
variable{H:Type}{enc:TypeId×Value→H}{W:World}
theorem VW{fuel:Nat}{v:Value}{x:DataW H×List MemPlace}(h:DataW.trod enc Tryz.prog W 0 (fun _=>true) true fuel 34 [v]=some x)(l:∀p∈x.2,p.block<W.heap.size)(hw:∀n∈x.1.weights Tryz.prog 34,n≤reachBytes):
  ∃a len cap,v= .slice a len cap∧len≤cap∧ZG W a len:=by
 rcases zJ Tryz.underlying34 Tryz.underlying30 (by kernel_rfl) (by kernel_rfl) h with⟨hcs,hx⟩|⟨a,len,cap,m,D,Pl,hcs,_,hl,hm,hmm,hx,hi⟩
 ·simp only[aa6,aaI]at hcs;subst hcs;exact⟨none,0,0,rfl,Nat.le_refl _,by simp,fun h=>by omega⟩
 ·simp only[aa6,aaI]at hcs;subst hcs;subst hx;simp only[if_true]at hmm;subst hmm;refine⟨some a,len,m,rfl,hl,by omega,fun h0=> ?_⟩;have hsub:∀(i:Nat) (ys:List (DataW H×List MemPlace)) (j:Nat) (y:DataW H×List MemPlace),i<m→Pl i=ys.flatMap (·.2)→ys[j]? =some y→∀p∈y.2,p.block<W.heap.size:=by
   intro i ys j y hi' hp hy p hpy;refine l p (ab4 _ (abU.2 ⟨i,ab6.2 hi',?_⟩));rw[hp];exact abU.2 ⟨y,aax hy,hpy⟩
  obtain⟨b,off,spot⟩:=a;have hspot:spot=none:=by
   obtain⟨ys,n,_,_,_,hf⟩:=hi 0 (by omega);obtain⟨v,y,hc,_⟩:=hf 0 _ rfl;simpa[Addr.add]using World.cell?_spot hc
  subst hspot;have hb:b<W.heap.size:=l (.cell b off) (abz _ (MemPlace.mem_row.2 ⟨0,by simp;omega,by simp⟩));refine⟨b,off,rfl,hb,fun k hk=> ?_⟩;obtain⟨ys,n,hD,hP,hyl,hf⟩:=hi k (by omega);obtain⟨v0,y0,c0,e0,t0⟩:=hf 0 _ rfl;obtain⟨v1,y1,c1,e1,t1⟩:=hf 1 _ rfl;obtain⟨v2,y2,c2,e2,t2⟩:=hf 2 _ rfl;obtain⟨v3,y3,c3,e3,t3⟩:=hf 3 _ rfl;obtain⟨v4,y4,c4,e4,t4⟩:=hf 4 _ rfl;obtain⟨v5,y5,c5,e5,t5⟩:=hf 5 _ rfl;obtain⟨v6,y6,c6,e6,t6⟩:=hf 6 _ rfl;obtain⟨v7,y7,c7,e7,t7⟩:=hf 7 _ rfl;obtain⟨v8,y8,c8,e8,t8⟩:=hf 8 _ rfl;obtain⟨z0,f0,_,g0⟩:=ab9 aa8 t0;obtain⟨s1,f1,_,g1⟩:=DataW.trod_string abj t1;obtain⟨s2,f2,_,g2⟩:=DataW.trod_string abj t2;obtain⟨z3,f3,_,g3⟩:=ab9 aa8 t3;obtain⟨z4,f4,_,g4⟩:=ab9 aa8 t4;obtain⟨z5,f5,_,g5⟩:=ab9 aa8 t5;obtain⟨z6,f6,_,g6⟩:=ab9 Tryz.underlying27 t6;obtain⟨z7,f7,_,g7⟩:=ab9 aa8 t7;obtain⟨a8,n8,k8,bs,rfl,q8,r8,r8w⟩:=KU t8 (hsub k ys 8 y8 (by omega) hP e8) (fun n hn=>hw n (Iu Tryz.underlying34 (d:=D k) (List.mem_map.2 ⟨k,ab6.2 hk,rfl⟩) (by
   rw[hD];exact Iw Tryz.underlying30 (j:=8) rfl (d:=y8.1) (by rw[List.getElem?_map,e8];rfl) hn)))
  simp only[aa6,aaI]at f0 f1 f2 f3 f4 f5 f6 f7;subst f0 f1 f2 f3 f4 f5 f6 f7;rw[add_plain]at c0 c1 c2 c3 c4 c5 c6 c7 c8;have hbl:bs.length=n8:=by simpa using r8.length
  subst hbl;refine⟨⟨z0,s1.data.toList,s2.data.toList,z3,z4,z5,z6,z7,bs⟩,a8,k8,⟨⟨c0,?_,?_,?_,?_,?_,?_,?_,?_⟩,⟨g0,g3,g4,g5,g7,Np g6,?_,?_,r8w⟩,q8,r8⟩⟩
  ·rw[Nat.add_assoc];dsimp only;rw[BF];exact c1
  ·rw[Nat.add_assoc];dsimp only;rw[BF];exact c2
  ·rw[Nat.add_assoc];exact c3
  ·rw[Nat.add_assoc];exact c4
  ·rw[Nat.add_assoc];exact c5
  ·rw[Nat.add_assoc];exact c6
  ·rw[Nat.add_assoc];exact c7
  ·rw[Nat.add_assoc];exact c8
  ·dsimp only;rw[Array.length_toList];exact g1
  ·dsimp only;rw[Array.length_toList];exact g2
end
open Go.ChangeShapes Go.WideShapes Go.ChangeAt Go.RowKit
structure Nq(x y:jD):Prop where
 kind:y.kind=x.kind
 path:y.path∈iy
 dD:y.dD∈iy
 fd:y.fd=bQ x.fd 0 3
 at_:y.at_=bQ x.at_ 0 50
 n:y.n=bQ x.n 0 60
 aA:y.aA=x.aA%12
 snap:0≤y.snap∧y.snap≤4
 data:y.data=x.data.take 40
theorem Nq.ok{x y:jD}(h:Nq x y)(hx:Et x):lY y:=by
 have h1:=rz x.fd 0 3 (by omega);have h2:=rz x.at_ 0 50 (by omega);have h3:=rz x.n 0 60 (by omega);have h4:=BD h.path;have h5:=BD h.dD;have h6:=hx.wt;have h7:=h.snap;refine⟨by rw[h.kind];exact hx.wk,by rw[h.fd];exact jU (by omega) (by omega),by rw[h.at_];exact jU (by omega) (by omega),by rw[h.n];exact jU (by omega) (by omega),jU (by omega) (by omega),by rw[h.aA];omega,by omega,by omega,by rw[h.data,aan];omega⟩
theorem BG(z:Int):(Lit.int .i64 (IntKind.i64.wrap z)).wf=true:=by
 have h1:=Int.emod_nonneg (z+9223372036854775808) (show(18446744073709551616:Int)≠0 by omega);have h2:=Int.emod_lt_of_pos (z+9223372036854775808) (show(0:Int)<18446744073709551616 by omega);simp[Lit.wf,IntKind.wrap,IntKind.min,IntKind.max,IntKind.signed,IntKind.bits];omega
theorem oF:(Tryz.prog.info? 30).map (·.size)=some 9:=by kernel_rfl
theorem mQ(x:jD)(da:Option Addr)(dc:Nat):(opC x da dc).all (·.oneCell')=true:=by simp[opC,Value.oneCell']
theorem wu{fn:Func}{sl:Nat}{Q:Ending→World→Prop}{a:Act}{w:World}{b:Nat}{x:jD}{da:Option Addr}{dc:Nat}(hf:fn.results= #[.cell sl 30])(hs:a.tmps.getD sl undef= .pointer (some ⟨b,0,none⟩))(hd:a.defers=[])(hg:w.heap[b]? =some (.cells (opC x da dc) 30 (0,0)))(hQ:Q (.returned (.agg (opC x da dc))) w):
  bodyPost Tryz.prog fn Q .ret a w:=
 aa3 (v:= .agg (opC x da dc)) (qj hf hs (run_loadVar_row w b 30 30 _ (0,0) _ hg Tryz.underlying30 rfl oF)) hd hQ
theorem uG{n:Nat}(w:World)(a:Addr)(v:Value)(hn:n≤w.heap.size)(h:n≤a.block):Below n w (w.setCell a v):=
 (Keeps.f_ w a v).mh hn fun x hx (e:x=a.block)=>by omega
structure uH(w w5:World)(az:Nat)(x y:jD)(da:Option Addr)(dc:Nat):Prop where
 kind:w5.cell? ⟨w.heap.size,0,none⟩=some (.int .i64 x.kind)
 snap:w5.cell? ⟨w.heap.size,7,none⟩=some (.int .i64 x.snap)
 cells:w5.heap[az]? =some (.cells (opC y da dc) 30 (0,0))
 res:w5.heap[w.heap.size+1]? =some (.cells #[.int .i64 0,.string ⟨#[]⟩,.string ⟨#[]⟩,.int .i64 0,.int .i64 0,.int .i64 0,.int .u64 0,.int .i64 0,.slice none 0 0] 30 (0,0))
 below:Below w.heap.size w w5
 ne:az≠w.heap.size+1∧az≠w.heap.size∧w.heap.size≤az
theorem uH.all{w w5:World}{az:Nat}{x y:jD}{da:Option Addr}{dc:Nat}(h:uH w w5 az x y da dc):w5.cell? ⟨az,0,none⟩=some (.int .i64 y.kind)∧w5.cell? ⟨az,1,none⟩=some (.string (strOf y.path))∧w5.cell? ⟨az,2,none⟩=some (.string (strOf y.dD))∧w5.cell? ⟨az,3,none⟩=some (.int .i64 y.fd)∧w5.cell? ⟨az,4,none⟩=some (.int .i64 y.at_)∧w5.cell? ⟨az,5,none⟩=some (.int .i64 y.n)∧w5.cell? ⟨az,6,none⟩=some (.int .u64 y.aA)∧w5.cell? ⟨az,7,none⟩=some (.int .i64 y.snap)∧w5.cell? ⟨az,8,none⟩=some (.slice da y.data.length dc)∧w5.frozen? ⟨az,7,none⟩=false:=by
 have:=h.cells;unfold opC at this;refine⟨?_,?_,?_,?_,?_,?_,?_,?_,?_,?_⟩<;>simp[World.cell?,World.frozen?,this]
theorem uH.put{w w5:World}{az:Nat}{x y:jD}{da:Option Addr}{dc:Nat}(h:uH w w5 az x y da dc):(w5.setCell ⟨az,7,none⟩ (.int .i64 0)).heap[w.heap.size+1]? =some (.cells #[.int .i64 0,.string ⟨#[]⟩,.string ⟨#[]⟩,.int .i64 0,.int .i64 0,.int .i64 0,.int .u64 0,.int .i64 0,.slice none 0 0] 30 (0,0))∧Below w.heap.size w (w5.setCell ⟨az,7,none⟩ (.int .i64 0)):=
 ⟨(aV w5 ⟨az,7,none⟩ (.int .i64 0) (w.heap.size+1) (fun e=>h.ne.1 e.symm)).trans h.res,h.below.trans (uG w5 ⟨az,7,none⟩ (.int .i64 0) h.below.size h.ne.2.2)⟩
theorem uH.of{w w2 wb w5:World}{az:Nat}{x y:jD}{da:Option Addr}{dc:Nat}(hb2:Below w.heap.size w w2)(hop:w2.heap[w.heap.size]? =some (.cells (opC x da dc) 30 (0,0)))
  (hre:w2.heap[w.heap.size+1]? =some (.cells #[.int .i64 0,.string ⟨#[]⟩,.string ⟨#[]⟩,.int .i64 0,.int .i64 0,.int .i64 0,.int .u64 0,.int .i64 0,.slice none 0 0] 30 (0,0)))(hb:Below w2.heap.size w2 wb)(haz:w2.heap.size≤az)(hs:jo wb az (opC y da dc) 30 w5):uH w w5 az x y da dc:=by
 have h1:=(iA.1 hop).1;have h2:=(iA.1 hre).1;obtain⟨k1,k2,k3⟩:=hs;have hbs:=hb.size;have ho:w5.heap[w.heap.size]? =some (.cells (opC x da dc) 30 (0,0)):=((k2.block _ (by omega) (by omega)).trans (hb.block _ h1)).trans hop;have hbb:Below w.heap.size w w5:=jo.below ⟨k1,k2,k3⟩ (hb2.trans (hb.mono hb2.size)) (by omega);refine⟨by simp[World.cell?,ho,opC],by simp[World.cell?,ho,opC],k1,((k2.block _ (by omega) (by omega)).trans (hb.block _ h2)).trans hre,hbb,by omega⟩
def Iy(S:Nat→Prop)(w:World)(x:jD)(da:Option Addr)(e:Ending)(w':World):Prop:=
 ∃y RN,e= .returned (.agg (opC y da RN))∧Nq x y∧y.data.length≤RN∧ah S w' da y.data.length (y.data.map bv)∧Below w.heap.size w w'
theorem rC{S:Nat→Prop}{w w6:World}{x y:jD}{da:Option Addr}{dc:Nat}{d40:List UInt8}{s1 s2:List UInt8}(hx:Et x)(hdc:x.data.length≤dc)(hda:ah S w da x.data.length (x.data.map bv))(h4:d40=x.data.take 40)(h1:s1∈iy)(h2:s2∈iy)
  (hs:y.snap=bQ x.snap 0 4∨y.snap=0)(e1:y.kind=x.kind)(e2:(y.path,y.dD)=(s1,s2))(e3:(y.fd,y.at_,y.n)=(bQ x.fd 0 3,bQ x.at_ 0 50,bQ x.n 0 60))(e4':y.aA=x.aA.tmod 12)(e5:y.data=d40)(hb:Below w.heap.size w w6):Iy S w x da (.returned (.agg (opC y da dc))) w6:=by
 have e4:y.aA=x.aA%12:=e4'.trans (Int.tmod_eq_emod_of_nonneg hx.wt.1);obtain⟨ep,et⟩:=Prod.mk.inj e2;obtain⟨ef,e6⟩:=Prod.mk.inj e3;obtain⟨ea,en⟩:=Prod.mk.inj e6;have hb4:=rz x.snap 0 4 (by omega);have hl:y.data.length=min x.data.length 40:=by rw[e5,h4,aan,Nat.min_comm]
 refine⟨y,dc,rfl,⟨e1,by rw[ep];exact h1,by rw[et];exact h2,ef,ea,en,e4,by rcases hs with h|h<;>omega,by rw[e5,h4]⟩,by omega,?_,hb⟩;have:=(hda.take 40).below hb acC;rw[hl,e5,h4,aa9];exact this
theorem pq{w2 x:World}(h:acB (Below w2.heap.size w2 x)):acB (Below w2.heap.size w2 (x.alloc (.cells #[.int .i64 0,.string ⟨#[]⟩,.string ⟨#[]⟩,.int .i64 0,.int .i64 0,.int .i64 0,.int .u64 0,.int .i64 0,.slice none 0 0] 30)))∧acB ((x.alloc (.cells #[.int .i64 0,.string ⟨#[]⟩,.string ⟨#[]⟩,.int .i64 0,.int .i64 0,.int .i64 0,.int .u64 0,.int .i64 0,.slice none 0 0] 30)).heap[x.heap.size]? =some (.cells #[.int .i64 0,.string ⟨#[]⟩,.string ⟨#[]⟩,.int .i64 0,.int .i64 0,.int .i64 0,.int .u64 0,.int .i64 0,.slice none 0 0] 30 (0,0))∧w2.heap.size≤x.heap.size):=
 ⟨aby h.o h.o.size _,(MapKept.heap_alloc _ _).1,h.o.size⟩
theorem VX{S:Nat→Prop}(w:World)(kd:Int)(pa dD:List UInt8)(fd at_ nn aA sn:Int)(dt:List UInt8)(hx:Et ⟨kd,pa,dD,fd,at_,nn,aA,sn,dt⟩)(da:Option Addr)(dc:Nat)(hdc:dt.length≤dc)(hda:ah S w da dt.length (dt.map bv)):
  Calls Tryz.prog 13 #[.agg (opC ⟨kd,pa,dD,fd,at_,nn,aA,sn,dt⟩ da dc)] w (Iy S w ⟨kd,pa,dD,fd,at_,nn,aA,sn,dt⟩ da):=by
 obtain⟨w2,hw2⟩:∃w2,w2=(w.alloc (.cells (opC ⟨kd,pa,dD,fd,at_,nn,aA,sn,dt⟩ da dc) 30)).alloc (.cells #[.int .i64 0,.string ⟨#[]⟩,.string ⟨#[]⟩,.int .i64 0,.int .i64 0,.int .i64 0,.int .u64 0,.int .i64 0,.slice none 0 0] 30):=⟨_,rfl⟩;have hb2:Below w.heap.size w w2:=by rw[hw2];exact(acD.alloc acC _).trans ((acD.alloc acC _).mono (by simp))
 have hop:w2.heap[w.heap.size]? =some (.cells (opC ⟨kd,pa,dD,fd,at_,nn,aA,sn,dt⟩ da dc) 30 (0,0)):=by
  rw[hw2];exact((acD.alloc acC _).block _ (by simp)).trans (MapKept.heap_alloc w _).1
 have hre:w2.heap[w.heap.size+1]? =some (.cells #[.int .i64 0,.string ⟨#[]⟩,.string ⟨#[]⟩,.int .i64 0,.int .i64 0,.int .i64 0,.int .u64 0,.int .i64 0,.slice none 0 0] 30 (0,0)):=by
  rw[hw2];have:=(MapKept.heap_alloc (w.alloc (.cells (opC ⟨kd,pa,dD,fd,at_,nn,aA,sn,dt⟩ da dc) 30)) (.cells #[.int .i64 0,.string ⟨#[]⟩,.string ⟨#[]⟩,.int .i64 0,.int .i64 0,.int .i64 0,.int .u64 0,.int .i64 0,.slice none 0 0] 30)).1;rw[aad]at this;exact this
 have ji:acB (∀w3,Below w2.heap.size w2 w3→(fun w'=>w'.cell? ⟨w.heap.size,0,none⟩=some (.int .i64 kd)∧w'.cell? ⟨w.heap.size,1,none⟩=some (.string (strOf pa))∧w'.cell? ⟨w.heap.size,2,none⟩=some (.string (strOf dD))∧w'.cell? ⟨w.heap.size,3,none⟩=some (.int .i64 fd)∧w'.cell? ⟨w.heap.size,4,none⟩=some (.int .i64 at_)∧w'.cell? ⟨w.heap.size,5,none⟩=some (.int .i64 nn)∧w'.cell? ⟨w.heap.size,6,none⟩=some (.int .u64 aA)∧w'.cell? ⟨w.heap.size,7,none⟩=some (.int .i64 sn)∧w'.cell? ⟨w.heap.size,8,none⟩=some (.slice da dt.length dc)) w3):=fun w3 hb=>by
  have:=(hb.block _ (iA.1 hop).1).trans hop;unfold opC at this;refine⟨?_,?_,?_,?_,?_,?_,?_,?_,?_⟩<;>simp[World.cell?,this]
 have HX:=acA hx;have sU:=acA hre;have uX:=acA hop;have HB2:=acA hb2;have HW2:=acA hw2;have jE:=acA hda;have Wn:=acA hdc;have HZ1:acB ((Lit.int .i64 (IntKind.i64.wrap (((strOf pa).size:Int)+at_.tmod 7))).wf=true):=BG _;have HZ2:acB ((Lit.int .i64 (IntKind.i64.wrap (((strOf dD).size:Int)+nn.tmod 7))).wf=true):=BG _;obtain⟨d40,hd40⟩:∃d40,d40=dt.take 40:=⟨_,rfl⟩;have HD4:=acA hd40;have Ag:acB (∀w:World,Calls Tryz.prog 17 #[.slice da dt.length dc,.int .i64 40] w fun e w'=>e= .returned (.slice da d40.length dc)∧w=w'):=fun w=>by
  have:=OA da dt.length dc 40 hdc (by omega) hda.small w;rw[show min dt.length 40=d40.length by rw[hd40,aan,Nat.min_comm]]at this;exact this
 clear hx hre hb2 hop hda hdc hd40;unfold opC at HW2;unfold opC;go_enter Tryz.func13,Tryz.ntmps13;go_wp2_with fail;rw[←HW2.o];clear HW2 hw2;refine qA 38 ((fun w'=>w'.cell? ⟨w.heap.size,0,none⟩=some (.int .i64 kd)∧w'.cell? ⟨w.heap.size,1,none⟩=some (.string (strOf pa))∧w'.cell? ⟨w.heap.size,2,none⟩=some (.string (strOf dD))∧w'.cell? ⟨w.heap.size,3,none⟩=some (.int .i64 fd)∧w'.cell? ⟨w.heap.size,4,none⟩=some (.int .i64 at_)∧w'.cell? ⟨w.heap.size,5,none⟩=some (.int .i64 nn)∧w'.cell? ⟨w.heap.size,6,none⟩=some (.int .u64 aA)∧w'.cell? ⟨w.heap.size,7,none⟩=some (.int .i64 sn)∧w'.cell? ⟨w.heap.size,8,none⟩=some (.slice da dt.length dc))) ?_ fun hS=> ?_
 ·exact ji.o _ acD.drew
 obtain⟨x,hx0⟩:∃x,x=w2.drew:=⟨_,rfl⟩;have rF:acB (Below w2.heap.size w2 x):=by rw[hx0];exact acA acD.drew
 rw[←hx0]at hS⊢;clear hx0;refine au 0 hS ?_;refine au 1 hS ?_;refine au 2 hS ?_;refine au 3 hS ?_;refine au 4 hS ?_;refine au 5 hS ?_;refine au 6 hS ?_;refine au 7 hS ?_;refine au 8 hS ?_;refine au 10 hS ?_;refine au 11 hS ?_;refine au 12 hS ?_;refine au 13 hS ?_;refine au 14 hS ?_;refine au 15 hS ?_;refine au 16 hS ?_;refine au 18 hS ?_;refine au 19 hS ?_;refine au 21 hS ?_;refine au 22 hS ?_;refine au 24 hS ?_;refine au 25 hS ?_;refine au 27 hS ?_;refine au 28 hS ?_;refine au 29 hS ?_;refine au 30 hS ?_;refine au 31 hS ?_;refine au 33 hS ?_;refine au 34 hS ?_;refine pK 9 37 (fun K hK=> ?_) fun K hK=> ?_;rotate_left;go_simp;obtain⟨rF,KV⟩:=pq rF;refine bK hK (ji.o _ rF.o) fun hS=> ?_;clear hK K
 all_goals (try refine bB 9 fun K hK=> ?_)
 all_goals
  go_simp;refine(KS _ HZ1.o _).mono ?_;rintro e y ⟨s1,hs,rfl,hb⟩;have Al:=acA hs
  try have KV:=acA (And.intro ((hb.block _ (iA.1 KV.o.1).1).trans KV.o.1) KV.o.2)
  have rF:=acA (rF.o.trans (hb.mono rF.o.size));clear hs hb;go_wp2_with fail;refine bK hK (ji.o _ rF.o) fun hS=> ?_;clear hK K
 rotate_right
 refine pK 17 37 (fun K hK=> ?_) fun K hK=> ?_;rotate_left;go_simp;obtain⟨rF,KV⟩:=pq rF;refine bK hK (ji.o _ rF.o) fun hS=> ?_;clear hK K
 all_goals (try refine bB 17 fun K hK=> ?_)
 all_goals
  go_simp;refine(KS _ HZ2.o _).mono ?_;rintro e y ⟨s2,hs,rfl,hb⟩;have IL:=acA hs
  try have KV:=acA (And.intro ((hb.block _ (iA.1 KV.o.1).1).trans KV.o.1) KV.o.2)
  have rF:=acA (rF.o.trans (hb.mono rF.o.size));clear hs hb;go_wp2_with fail;refine bK hK (ji.o _ rF.o) fun hS=> ?_;clear hK K
 rotate_right
 refine pK 20 37 (fun K hK=> ?_) fun K hK=> ?_;rotate_left;go_simp;obtain⟨rF,KV⟩:=pq rF;refine bK hK (ji.o _ rF.o) fun hS=> ?_;clear hK K
 all_goals (try refine bB 20 fun K hK=> ?_)
 all_goals
  go_simp;refine(rA fd 0 3 _ HX.o.wf (by omega) (by omega) (by omega)).mono ?_;rintro e _ ⟨rfl,rfl⟩;go_wp2_with fail;refine bK hK (ji.o _ rF.o) fun hS=> ?_;clear hK K
 rotate_right
 refine pK 23 37 (fun K hK=> ?_) fun K hK=> ?_;rotate_left;go_simp;obtain⟨rF,KV⟩:=pq rF;refine bK hK (ji.o _ rF.o) fun hS=> ?_;clear hK K
 all_goals (try refine bB 23 fun K hK=> ?_)
 all_goals
  go_simp;refine(rA at_ 0 50 _ HX.o.wa (by omega) (by omega) (by omega)).mono ?_;rintro e _ ⟨rfl,rfl⟩;go_wp2_with fail;refine bK hK (ji.o _ rF.o) fun hS=> ?_;clear hK K
 rotate_right
 refine pK 26 37 (fun K hK=> ?_) fun K hK=> ?_;rotate_left;go_simp;obtain⟨rF,KV⟩:=pq rF;refine bK hK (ji.o _ rF.o) fun hS=> ?_;clear hK K
 all_goals (try refine bB 26 fun K hK=> ?_)
 all_goals
  go_simp;refine(rA nn 0 60 _ HX.o.wn (by omega) (by omega) (by omega)).mono ?_;rintro e _ ⟨rfl,rfl⟩;go_wp2_with fail;refine bK hK (ji.o _ rF.o) fun hS=> ?_;clear hK K
 rotate_right
 refine pK 32 37 (fun K hK=> ?_) fun K hK=> ?_;rotate_left;go_simp;obtain⟨rF,KV⟩:=pq rF;refine bK hK (ji.o _ rF.o) fun hS=> ?_;clear hK K
 all_goals (try refine bB 32 fun K hK=> ?_)
 all_goals
  go_simp;refine(rA sn 0 4 _ HX.o.ws (by omega) (by omega) (by omega)).mono ?_;rintro e _ ⟨rfl,rfl⟩;go_wp2_with fail;refine bK hK (ji.o _ rF.o) fun hS=> ?_;clear hK K
 rotate_right
 refine pK 35 37 (fun K hK=> ?_) fun K hK=> ?_;rotate_left;go_simp;obtain⟨rF,KV⟩:=pq rF;refine bK hK (ji.o _ rF.o) fun hS=> ?_;clear hK K
 all_goals (try refine bB 35 fun K hK=> ?_)
 all_goals
  go_simp;refine(Ag.o _).mono ?_;rintro e _ ⟨rfl,rfl⟩;go_wp2_with fail;refine bK hK (ji.o _ rF.o) fun hS=> ?_;clear hK K
 rotate_right
 all_goals (refine au 36 hS ?_)
 refine bB 37 fun K hK=> ?_;go_simp;obtain⟨rF,KV⟩:=pq rF;refine bK hK (ji.o _ rF.o) fun hS=> ?_;clear hK K
 all_goals
  refine bB 38 fun K hK=> ?_;refine eU rfl 30 _ _ rfl _ (opC ⟨kd,s1,s2,bQ fd 0 3,bQ at_ 0 50,bQ nn 0 60,aA.tmod 12,bQ sn 0 4,d40⟩ da dc) rfl rfl _ KV.o.1 oF rfl (mQ _ _ _) ?_;intro w5 hs5;have BZ:=acA (uH.of HB2.o uX.o sU.o rF.o KV.o.2 hs5);clear hs5;refine kX hK ?_;clear hS hK K;have y0:=BZ.o.kind;have y7:=BZ.o.snap;obtain⟨z0,z1,z2,z3,z4,z5,z6,z7,z8,zf⟩:=BZ.o.all;dsimp only at y0 y7 z0 z1 z2 z3 z4 z5 z6 z7 z8;obtain⟨hr7,vY⟩:=BZ.o.put;have HP7:=acA (And.intro hr7 vY);clear hr7 vY;by_cases h3:kd=3
  ·subst h3;cases hs:(sn.tmod 3 !=0)
   case false=>
    go_wp2_with (refine ak (by rfl) 30 _ _ (by rfl) (w.heap.size+1) (opC ⟨3,s1,s2,bQ fd 0 3,bQ at_ 0 50,bQ nn 0 60,aA.tmod 12,bQ sn 0 4,d40⟩ da dc) (by rfl) (by rfl) _ BZ.o.res oF rfl (mQ _ _ _) ?_;intro w6 hs6;have lg:=acA hs6;clear hs6);exact wu rfl rfl rfl lg.o.1 (rC HX.o Wn.o jE.o HD4.o Al.o IL.o (.inl rfl) rfl rfl rfl rfl rfl (lg.o.below BZ.o.below (ab2 _)))
   case true=>
    go_wp2_with (refine ak (by rfl) 30 _ _ (by rfl) (w.heap.size+1) (opC ⟨3,s1,s2,bQ fd 0 3,bQ at_ 0 50,bQ nn 0 60,aA.tmod 12,0,d40⟩ da dc) (by rfl) (by rfl) _ HP7.o.1 oF rfl (mQ _ _ _) ?_;intro w6 hs6;have lg:=acA hs6;clear hs6);exact wu rfl rfl rfl lg.o.1 (rC HX.o Wn.o jE.o HD4.o Al.o IL.o (.inr rfl) rfl rfl rfl rfl rfl (lg.o.below HP7.o.2 (ab2 _)))
  ·have e3:(kd==3)=false:=by simpa using h3
   clear h3;by_cases h11:kd=11
   ·subst h11;cases hs:(sn.tmod 3 !=0)
    case false=>
     go_wp2_with (refine ak (by rfl) 30 _ _ (by rfl) (w.heap.size+1) (opC ⟨11,s1,s2,bQ fd 0 3,bQ at_ 0 50,bQ nn 0 60,aA.tmod 12,bQ sn 0 4,d40⟩ da dc) (by rfl) (by rfl) _ BZ.o.res oF rfl (mQ _ _ _) ?_;intro w6 hs6;have lg:=acA hs6;clear hs6);exact wu rfl rfl rfl lg.o.1 (rC HX.o Wn.o jE.o HD4.o Al.o IL.o (.inl rfl) rfl rfl rfl rfl rfl (lg.o.below BZ.o.below (ab2 _)))
    case true=>
     go_wp2_with (refine ak (by rfl) 30 _ _ (by rfl) (w.heap.size+1) (opC ⟨11,s1,s2,bQ fd 0 3,bQ at_ 0 50,bQ nn 0 60,aA.tmod 12,0,d40⟩ da dc) (by rfl) (by rfl) _ HP7.o.1 oF rfl (mQ _ _ _) ?_;intro w6 hs6;have lg:=acA hs6;clear hs6);exact wu rfl rfl rfl lg.o.1 (rC HX.o Wn.o jE.o HD4.o Al.o IL.o (.inr rfl) rfl rfl rfl rfl rfl (lg.o.below HP7.o.2 (ab2 _)))
   ·have e11:(kd==11)=false:=by simpa using h11
    clear h11;by_cases h12:kd=12
    ·subst h12;cases hs:(sn.tmod 3 !=0)
     case false=>
      go_wp2_with (refine ak (by rfl) 30 _ _ (by rfl) (w.heap.size+1) (opC ⟨12,s1,s2,bQ fd 0 3,bQ at_ 0 50,bQ nn 0 60,aA.tmod 12,bQ sn 0 4,d40⟩ da dc) (by rfl) (by rfl) _ BZ.o.res oF rfl (mQ _ _ _) ?_;intro w6 hs6;have lg:=acA hs6;clear hs6);exact wu rfl rfl rfl lg.o.1 (rC HX.o Wn.o jE.o HD4.o Al.o IL.o (.inl rfl) rfl rfl rfl rfl rfl (lg.o.below BZ.o.below (ab2 _)))
     case true=>
      go_wp2_with (refine ak (by rfl) 30 _ _ (by rfl) (w.heap.size+1) (opC ⟨12,s1,s2,bQ fd 0 3,bQ at_ 0 50,bQ nn 0 60,aA.tmod 12,0,d40⟩ da dc) (by rfl) (by rfl) _ HP7.o.1 oF rfl (mQ _ _ _) ?_;intro w6 hs6;have lg:=acA hs6;clear hs6);exact wu rfl rfl rfl lg.o.1 (rC HX.o Wn.o jE.o HD4.o Al.o IL.o (.inr rfl) rfl rfl rfl rfl rfl (lg.o.below HP7.o.2 (ab2 _)))
    ·have e12:(kd==12)=false:=by simpa using h12
     clear h12;go_wp2_with (refine ak (by rfl) 30 _ _ (by rfl) (w.heap.size+1) (opC ⟨kd,s1,s2,bQ fd 0 3,bQ at_ 0 50,bQ nn 0 60,aA.tmod 12,bQ sn 0 4,d40⟩ da dc) (by rfl) (by rfl) _ BZ.o.res oF rfl (mQ _ _ _) ?_;intro w6 hs6;have lg:=acA hs6;clear hs6);exact wu rfl rfl rfl lg.o.1 (rC HX.o Wn.o jE.o HD4.o Al.o IL.o (.inl rfl) rfl rfl rfl rfl rfl (lg.o.below BZ.o.below (ab2 _)))
theorem KW{S:Nat→Prop}(w:World)(x:jD)(hx:Et x)(da:Option Addr)(dc:Nat)(hdc:x.data.length≤dc)(hda:ah S w da x.data.length (x.data.map bv)):
  Calls Tryz.prog 13 #[.agg (opC x da dc)] w (Iy S w x da):=by
 obtain⟨kd,pa,dD,fd,at_,nn,aA,sn,dt⟩:=x;exact VX w kd pa dD fd at_ nn aA sn dt hx da dc hdc hda
theorem wB{w:World}(h:w.ShapedOpen Tryz.prog):∃m,w.cell? ⟨0,0,none⟩=some (.int .i64 m)∧0<w.heap.size:=by
 obtain⟨m,hm⟩:=Go.Proofs.cell_of_shapedOpen_int (zero:= #[.int .i64 0]) (t:=3) h (of_decide_eq_true (by kernel_rfl)) (by kernel_rfl) rfl (by kernel_rfl) (by kernel_rfl) aa8;exact⟨m,hm,aag w _ hm⟩
def VY:Obj→Obj
 | .cells _ t frozen=> .cells ((Go.Pinned.utf8FirstZ.map fun(n:Nat)=>Value.int .u8 (n:Int)).toArray) t frozen
 |o=>o
def Rn:Obj→Obj
 | .cells _ t frozen=> .cells ((([128,191,160,191,128,159,144,191,128,143,0,0,0,0,0,0,0,0,0,0,0,0,0,0,0,0,0,0,0,0,0,0]:List Nat).map fun(n:Nat)=>Value.int .u8 (n:Int)).toArray) t frozen
 |o=>o
noncomputable def Eu (os:Os):World:=
 {World.holding Tryz.prog os ⟨#[],#[],[]⟩with heap:=((World.holding Tryz.prog os ⟨#[],#[],[]⟩).heap.modify 1 VY).modify 2 Rn}
theorem Ev{H:Type}{enc:TypeId×Value→H}{W:World}{base:Nat}{v0:Value}{d0:DataW H}{p0:List MemPlace}(h0:DataW.Trod enc Tryz.prog W 0 (fun _=>true) true 34 v0 d0 p0)(l0:∀x∈p0,x.block<W.heap.size)(o0:Value.okWide Tryz.prog W .any base 34 v0)(hw:∀n∈d0.weights Tryz.prog 34,n≤reachBytes):
  ∃a len cap,v0= .slice a len cap∧len≤cap∧ZG W a len:=by
 obtain⟨a0,len,cap,rfl⟩:=okWide_slice Tryz.underlying34 o0;obtain⟨fuel,hf⟩:=h0;exact VW hf l0 hw
def ZH(W:World)(p q n:Nat)(iv:Value)(wr:World):Prop:=∃(k:Nat) (o:Mark) (M:dS),iv= .int .i64 k∧k≤n∧g_ W o 1 wr p q (1+k) M∧lD M.s
section
variable{W w w':World}{o:Mark}{i p q:Nat}{c:Int}{M:dS}
theorem g_.free(h:g_ W o i w p q c M){a:Option Addr}{n:Nat}{vs:List Value}(hr:ah (fun b=>b<W.heap.size) w a n vs):ah (Free o w) w a n vs:=
 hr.mono fun b hb=>⟨aaj fun h0=>by have:=(h.s.marks.new b h0).1;omega,Pd hb h.s.below.size⟩
theorem g_.OB(h:g_ W o i w p q c M)(hid:lD M.s)(x:jD):lD (dH M x).2.s:=hid.do_ h.s.ok.next.1 x
theorem g_.first(h:g_ W o i w p q c M){m:Int}(hm:W.cell? ⟨0,0,none⟩=some (.int .i64 m))(hb:Below w.heap.size w w'):w'.cell? ⟨0,0,none⟩=some (.int .i64 m):=
 ((h.s.below.trans (hb.mono h.s.below.size)).cell (p:=⟨0,0,none⟩) (aag W _ hm)).trans hm
end
end Go.Proofs.YtjnhnlabpccgjaaGreatDoor
