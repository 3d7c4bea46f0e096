/- Rows -/
import Derived.Test.YtmflaonodghbcaaGreatDoorM01
import Derived.OwnWalk
import Derived.Laws.OwnMore
import Derived.Laws.CopyOwn
set_option maxRecDepth 100000
set_option maxHeartbeats 64000000
set_option linter.all false
namespace Go.Proofs.YtmflaonodghbcaaGreatDoor
open Go.ChangeShapes Go.WideShapes Go.ChangeAt Go.RowKit
abbrev bv(b:UInt8):Value:= .int .u8 b.toNat
def Kg(F:Nat→Prop)(w:World)(n:Nat)(v:Value)(bs:List UInt8):Prop:=
 bs.length=n∧∃b cap cur,v= .slice (some ⟨b,0,none⟩) n cap∧F b∧w.heap[b]? =some (.cells cur 5 (0,0))∧cur.toList.take n=bs.map bv∧n≤cap∧cap≤maxLen∧cur.size=cap
def xP{α β:Type}(R:α→β→Prop):Option α→Option β→Prop
 |some a,some b=>R a b
 |none,none=>True
 |_,_=>False
theorem Tryz.uP:(Tryz.prog.info? 5).map (fun i=>(i.zero,i.size,i.bytes))=some (some (.int .u8 0),1,1):=by kernel_rfl
theorem Ro{α β:Type}{R:α→β→Prop}{a:Option α}{b:Option β}(h:xP R a b)(hb:b=none):a=none:=by
 subst hb;cases a<;>simp_all [xP]
theorem Al{α β:Type}{R:α→β→Prop}{a:Option α}{b:Option β}{y:β}(h:xP R a b)(hb:b=some y):∃x,a=some x∧R x y:=by
 subst hb;cases a<;>simp_all [xP]
theorem Dt{α β:Type}{R:α→β→Prop}{a:Option α}{b:Option β}{x:α}(h:xP R a b)(ha:a=some x):∃y,b=some y∧R x y:=by
 subst ha;cases b<;>simp_all [xP]
theorem Kg.move{F F':Nat→Prop}{w w':World}{n:Nat}{v:Value}{bs:List UInt8}(h:Kg F w n v bs)(hk:∀b,F b→b<w.heap.size→F' b∧w'.heap[b]? =w.heap[b]?):Kg F' w' n v bs:=by
 obtain⟨hl,b,cap,cur,e,hF,hc,r⟩:=h;obtain⟨h1,h2⟩:=hk b hF (uh.1 hc).1;exact⟨hl,b,cap,cur,e,h1,h2.trans hc,r⟩
theorem xP.imp{α β:Type}{R R':α→β→Prop}{a:Option α}{b:Option β}(h:xP R a b)(hi:∀x y,R x y→R' x y):xP R' a b:=by
 cases a<;>cases b<;>simp_all [xP]
theorem aL(w:World)(a:Addr)(v:Value)(b:Nat)(h:b≠a.block):(w.setCell a v).heap[b]? =w.heap[b]? :=Below.heap_setCell w a v b h
theorem aK{w:World}{b i:Nat}{v:Value}{cs:Array Value}{t:TypeId}{z:Nat×Nat}(h:w.heap[b]? =some (.cells cs t z)):(w.setCell ⟨b,i,none⟩ v).heap[b]? =some (.cells (cs.setIfInBounds i v) t z):=by
 simp[World.setCell,Array.getElem?_modify,h]
theorem size_set(w:World)(a:Addr)(v:Value):(w.setCell a v).heap.size=w.heap.size:=by simp[World.setCell]
theorem Keeps.kX(w:World)(a:Addr)(v:Value):Keeps (fun x=>x=a.block) w (w.setCell a v):=
 ⟨rfl,rfl,rfl,by rw[size_set];exact Nat.le_refl _,fun b _ hn=>aL w a v b hn⟩
theorem wY{P:Program}{w:World}{ops:Array Oper}{rest:List Oper}{o:Oper}{a:Act}{Q:Exit→Act→World→Prop}(hgd:o.guard=none)(d s:Operand)(dT sT:TypeId)
  (ho:o.op= .call {callee:= .builtin .copy,args:= #[d,s],argTypes:= #[dT,sT]})(elem:TypeId)(hu:P.underlying dT=some (.slice elem))(hsz:(P.info? elem).map (·.size)=some 1)
  (sp:Option Addr)(g off dLen dCap sLen sCap:Nat)(hd:a.eval d= .slice (some ⟨g,off,none⟩) dLen dCap)(hs:a.eval s= .slice sp sLen sCap)
  (S:List Value)(t:TypeId)(hg:w.heap[g]? =some (.cells S.toArray t (0,0)))(cs:List UInt8)(hn:cs.length=Nat.min sLen dLen)
  (hpos:0<cs.length→∃ad,sp=some ad∧∀j v,(cs.map bv)[j]? =some v→w.cell? (ad.add j)=some v)
  (hfit:off+cs.length≤S.length)
  (h:∀w',acd (w'.heap[g]? =some (.cells (splice S off (cs.map bv)).toArray t (0,0)))→Keeps (fun x=>x=g) w w'→w'.heap.size=w.heap.size→wpList P ops Q rest (a.put o.dst (.int .i64 cs.length)) w'):
  wpList P ops Q (o::rest) a w:=by
 by_cases h0:cs.length=0
 ·obtain rfl:cs=[]:=Pe h0;refine wpList_copy_nothing hgd d s dT sT ho elem hu hsz (some ⟨g,off,none⟩) sp dLen dCap sLen sCap hd hs (by simpa using hn.symm) ?_;exact h w (show _=_ by simpa[splice]using hg) (Keeps.refl _ _) rfl
 ·obtain⟨ad,rfl,hsrc⟩:=hpos (by omega);have hx:=h (w.setRow g (S.take off++(cs.map bv++S.drop (off+cs.length))).toArray) (show _=_ by rw[setRow_heap w g _ _ t _ hg];simp[splice]) ⟨rfl,rfl,rfl,by simp[World.setRow],fun k _ hk=>setRow_other w g k _ hk⟩ (by simp[World.setRow]);refine wpList_copy_own hgd d s dT sT ho elem hu hsz g off dLen dCap ad sLen sCap hd hs S.toArray t hg (cs.map bv) (by simpa using hn) hsrc (by simpa using hfit) (by intro u hu;obtain⟨x,_,rfl⟩:=List.mem_map.1 hu;rfl) ?_;simpa only[List.length_map,goInt]using hx
theorem xQ{α β:Type}(f:α→β)(L:List α)(off:Nat)(cs:List α):splice (L.map f) off (cs.map f)=(splice L off cs).map f:=by simp[splice]
theorem Tryz.UD:(Tryz.prog.info? 5).map (·.size)=some 1:=by kernel_rfl
theorem Kh{P:Program}{ops:Array Oper}{o:Oper}{a:Act}{w:World}{K:Act→World→Prop}{Q:Exit→Act→World→Prop}{E:Prop}(hgd:o.guard=none)(d s:Operand)(dT sT:TypeId)
  (ho:o.op= .call {callee:= .builtin .copy,args:= #[d,s],argTypes:= #[dT,sT]})(elem:TypeId)(hu:P.underlying dT=some (.slice elem))(hsz:(P.info? elem).map (·.size)=some 1)
  (sp:Option Addr)(g off dLen dCap sLen sCap:Nat)(hd:a.eval d= .slice (some ⟨g,off,none⟩) dLen dCap)(hs:a.eval s= .slice sp sLen sCap)
  (S:List Value)(t:TypeId)(hg:w.heap[g]? =some (.cells S.toArray t (0,0)))(cs:List UInt8)(hn:cs.length=Nat.min sLen dLen)
  (hpos:0<cs.length→∃ad,sp=some ad∧∀j v,(cs.map bv)[j]? =some v→w.cell? (ad.add j)=some v)
  (hfit:off+cs.length≤S.length)
  (h:∀w',acd (w'.heap[g]? =some (.cells (splice S off (cs.map bv)).toArray t (0,0)))→Keeps (fun x=>x=g) w w'→w'.heap.size=w.heap.size→K (a.put o.dst (.int .i64 cs.length)) w'):
  if Region.wanted o (yielded ops a.tmps)=true then Oper.wp P o a w K Q else E:=by
 have hw:Region.wanted o (yielded ops a.tmps)=true:=by simp[Region.wanted,hgd]
 rw[if_pos hw];by_cases h0:cs.length=0
 ·obtain rfl:cs=[]:=Pe h0;have hrun:=run_copy_none (P:=P) w dT sT o.type elem (some ⟨g,off,none⟩) sp dLen dCap sLen sCap hu hsz (by simpa using hn.symm);unfold Oper.wp;simp[execOp,ho,resolve,invoke,builtin,hd,hs,hrun,Result.andThen];exact h w (show _=_ by simpa[splice]using hg) (Keeps.refl _ _) rfl
 ·obtain⟨ad,rfl,hsrc⟩:=hpos (by omega);have hrun:=run_copy_row (P:=P) w dT sT o.type elem g off dLen dCap ad sLen sCap S.toArray t (cs.map bv) hu hsz hg (by simpa using hn) hsrc (by simpa using hfit) (by intro u hu;obtain⟨x,_,rfl⟩:=List.mem_map.1 hu;rfl);unfold Oper.wp;simp[execOp,ho,resolve,invoke,builtin,hd,hs,hrun,Result.andThen];exact h (w.setRow g _) (show _=_ by rw[setRow_heap w g _ _ t _ hg];simp[splice]) ⟨rfl,rfl,rfl,by simp[World.setRow],fun k _ hk=>setRow_other w g k _ hk⟩ (by simp[World.setRow])
def xR(x:Int):Int:=bits .xor .u32 IntKind.u32.max x
def Du(c:Int):Int:=if bits .and .u32 c 1=1 then bits .xor .u32 (c/2) 3988292384 else c/2
def BH(c:Int):Nat→Int
 |0=>c
 |n+1=>Du (BH c n)
def jF(c:Int)(x:UInt8):Int:=BH (bits .xor .u32 c ((x.toNat:Int)%4294967296)) 8
def mM(bs:List UInt8):Int:=xR (bs.foldl jF (xR 0))
theorem UE(op:BinOp)(x y:Int):0≤bits op .u32 x y∧bits op .u32 x y<4294967296:=by
 unfold bits;simp only[IntKind.wrap,IntKind.bits,IntKind.signed];simp;omega
theorem mR(bs:List UInt8):0≤mM bs∧mM bs<4294967296:=by unfold mM xR;exact UE _ _ _
theorem Rp{bs:List UInt8}{k:Nat}{x:UInt8}(h:bs[k]? =some x)(c:Int):(bs.take (k+1)).foldl jF c=jF ((bs.take k).foldl jF c) x:=by
 obtain⟨hk,e⟩:=aaj.1 h;rw[aai hk,List.foldl_append,e];rfl
theorem Ki{S:Nat→Prop}(c:Int)(a:Option Addr)(n cp:Nat)(bs:List UInt8)(w:World)(hr:ah S w a n (bs.map bv))(hn:n≤1000000000):
  Calls Tryz.prog 170 #[.int .u32 c,.slice a n cp] w fun e w'=>e= .returned (.int .u32 (xR (bs.foldl jF (xR c))))∧w=w':=by
 have hl:bs.length=n:=by simpa using hr.length
 obtain⟨c0,hc0⟩:∃c0,c0=xR c:=⟨_,rfl⟩;have HR:=ab9 hr;have HL:=ab9 hl;rw[←hc0];have Ul:=ab9 hc0;have hsg:IntKind.u32.signed=false:=rfl;clear hr hl;go_enter Tryz.func170,Tryz.ntmps170;go_wp2_with fail;rw[show bits .xor .u32 IntKind.u32.max c=c0 from hc0.symm];clear hc0
 go_loopw [0,12] (fun v iv wr=>∃k:Nat,iv= .int .i64 k∧k≤n∧v= .int .u32 ((bs.take k).foldl jF c0)∧w=wr) (fun _ iv _=>n-(intOf iv).toNat)
 case atStart=>exact⟨0,rfl,Nat.zero_le _,rfl,rfl⟩
 case round=>
  obtain⟨k,rfl,hk,rfl,rfl⟩:=hrel;obtain⟨f,hf⟩:∃f,f=(bs.take k).foldl jF c0:=⟨_,rfl⟩;rw[←hf];have HF:=ab9 hf;clear hf;by_cases hlt:k<n
  ·have hd:decide ((k:Int)<(n:Int))=true:=by simpa using hlt
   obtain⟨b,off,rfl,-,hbw,hc⟩:=HR.o.at_ (by omega);have hkl:k<bs.length:=by have:=HL.o;omega
   obtain⟨x,hx⟩:∃x,bs[k]? =some x:=⟨_,List.getElem?_eq_getElem hkl⟩;have hcell:w.cell? ⟨b,off+k,none⟩=some (.int .u8 (x.toNat:Int)):=by
    rw[hc k hlt,List.getElem?_map,hx];rfl
   have i0:(0:Int)≤(k:Int):=by omega
   have i1:(k:Int)<(n:Int):=by omega
   have HX:=ab9 hx;have FZ:=ab9 hlt;obtain⟨g,hg⟩:∃g,g=bits .xor .u32 f ((x.toNat:Int)%4294967296):=⟨_,rfl⟩;have HG:=ab9 hg;clear hc hx hkl hlt hk;go_wp2_with fail;rw[←hg];clear hg
   go_loopw [0,20] (fun v iv wr=>∃j:Nat,iv= .int .i64 j∧j≤8∧v= .int .u32 (BH g j)∧w=wr) (fun _ iv _=>8-(intOf iv).toNat)
   case atStart=>exact⟨0,rfl,Nat.zero_le _,rfl,rfl⟩
   case round=>
    obtain⟨j,rfl,hj,rfl,rfl⟩:=hrel;obtain⟨h,hh⟩:∃h,h=BH g j:=⟨_,rfl⟩;rw[←hh];have HH:=ab9 hh;clear hh;by_cases hjt:j<8
    ·have hdj:decide ((j:Int)<8)=true:=by simp;omega
     have j0:(j:Int)<8:=by omega
     have HJT:=ab9 hjt;clear hjt hj;by_cases hb:bits .and .u32 h 1=1
     ·have HN:acd (BH g (j+1)=bits .xor .u32 (h/2) 3988292384):=by
       show Du (BH g j)=_;rw[←HH.o,Du,if_pos hb]
      have hb':(bits .and .u32 h 1==1)=true:=by simpa using hb
      go_wp2_with fail;go_roundw
      case rel=>exact⟨j+1,by go_num,by have:=HJT.o;omega,by rw[HN.o],trivial⟩
      case measure=>have:=HJT.o;simp[intOf];omega
     ·have HN:acd (BH g (j+1)=h/2):=by
       show Du (BH g j)=_;rw[←HH.o,Du,if_neg hb]
      have hb':(bits .and .u32 h 1==1)=false:=by simpa using hb
      go_wp2_with fail;go_roundw
      case rel=>exact⟨j+1,by go_num,by have:=HJT.o;omega,by rw[HN.o],trivial⟩
      case measure=>have:=HJT.o;simp[intOf];omega
    ·have hdj:decide ((j:Int)<8)=false:=by simp;omega
     have hj8:j=8:=by omega
     have HN:acd ((bs.take (k+1)).foldl jF c0=h):=by
      show(bs.take (k+1)).foldl jF c0=h;rw[show(bs.take (k+1)).foldl jF c0=jF ((bs.take k).foldl jF c0) x from Rp HX.o c0,←HF.o,jF,←HG.o,HH.o,hj8]
     clear hjt hj hj8;go_wp2_with fail;go_roundw
     case rel=>exact⟨k+1,by go_num,by have:=FZ.o;omega,by rw[HN.o],trivial⟩
     case measure=>have:=FZ.o;simp[intOf];omega
  ·have hd:decide ((k:Int)<(n:Int))=false:=by simp;omega
   have HN:acd (f=bs.foldl jF c0):=by
    show f=_;rw[HF.o,List.take_of_length_le (by have:=HL.o;omega)]
   have hd':decide (k<n)=false:=aaf hlt;clear hlt;go_wp2_with fail;go_ret;rw[←HN.o];exact⟨gW (by unfold xR;exact Eq.refl _),Eq.refl _⟩
theorem vV{S:Nat→Prop}(a:Option Addr)(n cp:Nat)(bs:List UInt8)(w:World)(hr:ah S w a n (bs.map bv))(hn:n≤1000000000):
  Calls Tryz.prog 95 #[.slice a n cp] w fun e w'=>e= .returned (.int .u32 (mM bs))∧w=w':=by
 have HC:=ab9 (Ki 0 a n cp bs w hr hn);clear hr;go_enter Tryz.func95,Tryz.ntmps95;go_wp2_with fail;refine HC.o.mono ?_;rintro e _ ⟨rfl,rfl⟩;go_wp2_with fail;go_ret;exact⟨rfl,rfl⟩
end Go.Proofs.YtmflaonodghbcaaGreatDoor
