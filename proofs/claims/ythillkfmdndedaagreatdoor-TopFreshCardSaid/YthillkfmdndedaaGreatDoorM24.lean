/- package -/
import Derived.Test.YthillkfmdndedaaGreatDoorM23
import Derived.Deep.WholeRow
set_option maxRecDepth 100000
set_option maxHeartbeats 64000000
set_option linter.all false
namespace Go.Proofs.YthillkfmdndedaaGreatDoor
open Go.ChangeShapes Go.WideShapes Go.ChangeAt Go.RowKit
def RetO(w:World)(m:I8)(e:Ending)(w':World):Prop:=
 ∃v,e= .returned v/\w'.ownsRow w.heap.size 5 1 v m.length (m.map bv)/\Below w.heap.size w w'
theorem OY{S:Nat->Prop}(a:Mx)(n u:Nat)(y:I8)(w:World)(W:n<=1000000000)(C:ah S w a n (y.map bv)):
  Dy 44 #[.slice a n u] w (RetO w y):=by
 obtain⟨N,Q,E,G,F⟩:=aaq Tryz.vL;have A:y.length=n:=by have:=C.length;simpa using this
 have M:=λ w=>Lib.run_eql_slice_nil (P:=Tryz.prog) w 30 5 a n u 0 0 Tryz.underlying30;have J:=acp C;have I:=acp A;clear C A;cases a with
 |none=>
  have B:n=0:=by
   rcases aaI n with B|B
   ·exact B
   ·obtain⟨_,_,e,_⟩:=J.o.at_ B;cases e
  subst B;have D:y=[]:=aac I.o;subst D;go_enter abL,abz;go_wp2;go_ret;exact⟨_,rfl,⟨rfl,.inl ⟨rfl,rfl⟩⟩,Below.refl _ _⟩
 |some R=>
  have O:=acp (J.o.below (wall w (.cells #[] 5)) acs);go_enter abL,abz;go_wp2_with (at_builtin;refine dU rfl _ _ 30 rfl w.heap.size 5 N (.int .u8 0) 1 1 Tryz.underlying30 Q E G F rfl (by omega) _ 0 [] rfl (sD (MapKept.heap_alloc w _).1 acs) (some R) n u (y.map bv) rfl (by rw[Nat.mul_one];exact O.o) (jA y) (by unfold maxLen;omega) (by omega) (by simp) ?_;intro X V U m z;rw[Nat.zero_add,List.nil_append]at m;have K:=acp m;have H:=acp ((wall w _).trans z);clear m z;rw[Nat.zero_add]);go_ret;refine⟨_,rfl,?_,H.o⟩;rw[I.o];exact K.o
def bY(h:List Int)(rest:Value)(n:Int):Array Value:=(h.map gU++(kM.map gU++[rest,.int .i64 n])).toArray
theorem pQ{P:Program}{z:Func}{a:Nat}{t:TypeId}{m:Array Value}{y:Addr}{v:Value}{w:World}(h:z.results= #[.cell a t])(A:m.getD a undef= .pointer (some y))(B:(loadVar t y).run P w= .ok v w):(results z m).run P w= .ok v w:=by
 have u:m[a]?.getD undef= .pointer (some y):=by simpa using A
 simp[results,h,asAddr,u,B]
theorem BG{P:Program}{u:Array Oper}{rest:List Oper}{o:Oper}{a:Act}{w w':World}{Q:Exit->Act->World->Prop}(y:o.guard=none)(t:TypeId)(p v:Operand)(z:o.op=Op.store t p v)(m:(Instr.storeAt t (a.eval p) (a.eval v)).run P w= .ok () w')(h:wpList P u Q rest (a.put o.dst undef) w'):wpList P u Q (o::rest) a w:=by
 refine abU y λ K A=> ?_;unfold Oper.wp;simp[execOp,z,m,Result.andThen];exact A _ _ h
theorem Tv(w:World):Dy 242 #[] w λ e w'=>e= .returned (.agg (Gg.map gU).toArray)/\Below w.heap.size w w':=by
 go_enter Tryz.func242,Tryz.ntmps242;go_wp2;refine aav (v:= .agg (Gg.map gU).toArray) (pQ rfl rfl ?_) rfl ⟨rfl,wall w _⟩;exact run_loadVar_new w 329 (Gg.map gU).toArray 8 154 Tryz.underlying329 (by kernel_rfl)
abbrev kArr:Array Value:=(kM.map gU).toArray
abbrev z64:Array Value:=(List.replicate 64 (Value.int .u32 0)).toArray
theorem O4(w:World):(Instr.storeAt 331 (.pointer (some ⟨w.heap.size,0,none⟩)) (.agg kArr)).run Tryz.prog (w.alloc (.cells z64 331))= .ok () (w.alloc (.cells kArr 331)):=run_storeAt_new (P:=Tryz.prog) w 331 z64 kArr (by kernel_rfl) (by kernel_rfl) (by kernel_rfl)
theorem O5(w:World):Dy 243 #[] w λ e w'=>e= .returned (.agg (kM.map gU).toArray)/\Below w.heap.size w w':=by
 have m:=acp (O4 w);go_enter Tryz.func243,Tryz.ntmps243;go_wp2_with (refine BG rfl 331 _ _ rfl m.o ?_);refine aav (v:= .agg (kM.map gU).toArray) (pQ rfl rfl ?_) rfl ⟨rfl,wall w _⟩;exact run_loadVar_new w 331 (kM.map gU).toArray 64 154 Tryz.underlying331 (by kernel_rfl)
theorem BH{P:Program}{y:Array Oper}{rest:List Oper}{o:Oper}{a:Act}{w:World}{Q:Exit->Act->World->Prop}{v:Value}(z:o.guard=none)(t:TypeId)(m:Array (Nat×Operand))(A:o.op=Op.build t m)(u:(Instr.build t (m.map λ(i,x)=>(i,a.eval x))).run P w= .ok v w)(h:wpList P y Q rest (a.put o.dst v) w):wpList P y Q (o::rest) a w:=by
 refine abU z λ K B=> ?_;unfold Oper.wp;simp only[execOp,A,u,abV,acj,Result.andThen];exact B _ _ h
theorem ER(w:World):Dy 208 #[] w λ e w'=>∃x,e= .returned (ptr x)/\w.heap.size<=x/\w'.heap[x]? =some (.cells (bY Gg (.slice none 0 0) 0) 334 (0,0))/\Below w.heap.size w w':=by
 have A:acr (∀w:World,(Instr.build 334 #[(0,.agg (Gg.map gU).toArray),(1,.agg (kM.map gU).toArray)]).run Tryz.prog w= .ok (.agg (bY Gg (.slice none 0 0) 0)) w):=by
  intro w;kernel_rfl
 go_enter Tryz.func208,Tryz.ntmps208;go_wp2_with fail;refine(Tv _).mono ?_;rintro e B ⟨rfl,m⟩;go_wp2_with fail;refine(O5 _).mono ?_;rintro e u ⟨rfl,z⟩;go_wp2_with (refine BH rfl 334 _ rfl (A.o _) ?_);go_ret;have y:=m.trans (z.mono m.size);exact⟨u.heap.size,rfl,y.size,(MapKept.heap_alloc u _).1,y.trans ((wall u _).mono y.size)⟩
theorem tX{h:List Int}(m:h.length=8)(r:Value)(n:Int):(bY h r n)[72]? =some r:=by
 obtain⟨a0,z,A,a3,a4,a5,y,u,rfl⟩:=eight m;unfold bY;rw[aam];rfl
theorem st_n{h:List Int}(m:h.length=8)(r:Value)(n:Int):(bY h r n)[73]? =some (.int .i64 n):=by
 obtain⟨a0,z,A,a3,a4,a5,y,u,rfl⟩:=eight m;unfold bY;rw[aam];rfl
theorem Ag{h:List Int}(u:h.length=8)(r m:Value)(n:Int):(bY h r n).setIfInBounds 72 m=bY h m n:=by
 obtain⟨a0,A,B,a3,a4,a5,z,y,rfl⟩:=eight u;unfold bY;rw[aan];rfl
theorem LJ{h:List Int}(u:h.length=8)(r:Value)(n m:Int):(bY h r n).setIfInBounds 73 (.int .i64 m)=bY h r m:=by
 obtain⟨a0,A,B,a3,a4,a5,z,y,rfl⟩:=eight u;unfold bY;rw[aan];rfl
theorem st_k{h:List Int}(y:h.length=8)(r:Value)(n:Int)(i:Nat)(u:i<64):(bY h r n)[8+i]? =some (gU (kM.getD i 0)):=by
 have m:kM.length=64:=rfl;unfold bY;rw[aam,aax (by simp[y]),List.length_map,y,Nat.add_sub_cancel_left,aaY (by simp[m];exact u),List.getElem?_map,aa4,List.getElem?_eq_getElem (by rw[m];exact u)];rfl
theorem st_h{h:List Int}(u:h.length=8)(r:Value)(n:Int)(i:Nat)(m:i<8):(bY h r n)[i]? =some (gU (h.getD i 0)):=by
 unfold bY;rw[aam,aaY (by simp[u];exact m),List.getElem?_map,aa4,List.getElem?_eq_getElem (by rw[u];exact m)];rfl
theorem xG:∀(k:Nat) (h:List Int) (b:I8),runM h (k+1) b=kK (runM h k b) ((b.drop (64*k)).take 64)
 |0,h,b=>rfl
 |k+1,h,b=>by
  have m:runM h (k+1+1) b=runM (kK h (b.take 64)) (k+1) (b.drop 64):=rfl;have u:runM h (k+1) b=runM (kK h (b.take 64)) k (b.drop 64):=rfl;rw[m,u,xG k,aaV];congr 3;omega
theorem ES{S:Nat->Prop}{w:World}{a:Mx}{m:Nat}{vs:List Value}(h:ah S w a m vs):ah S w a (m*1) vs:=by rw[Nat.mul_one];exact h
def Wrote(x:Nat)(w:World)(m:I8)(n:Nat)(e:Ending)(w':World):Prop:=
 e= .returned (.tuple #[])/\∃v,w'.heap[x]? =some (.cells (bY (runM Gg (n/64) m) v n) 334 (0,0))/\w'.ownsRow w.heap.size 5 1 v (n%64) ((m.drop (64*(n/64))).map bv)/\Keeps (λ b=>b=x) w w'
theorem Tw{S:Nat->Prop}(x:Nat)(a:Mx)(n c:Nat)(z:I8)(w:World)(B:w.heap[x]? =some (.cells (bY Gg (.slice none 0 0) 0) 334 (0,0)))(hr:ah S w a n (z.map bv))(A:∀b,S b->b≠x)(hn:n<=100000000)(bD:n<=c):
  Dy 209 #[ptr x,.slice a n c] w (Wrote x w z n):=by
 obtain⟨i8,hi⟩:∃i,Tryz.prog.info? 5=some i/\i.zero=some (.int .u8 0)/\i.size=1/\i.bytes=1:=aaq (by kernel_rfl);have HI:=acp hi;have C:Gg.length=8:=rfl;have dn:=(qW.1 B).1;have bT:w.cell? ⟨x,73,none⟩=some (.int .i64 0):=by simp only[World.cell?,B];exact st_n C _ _
 have bS:w.frozen? ⟨x,73,none⟩=false:=by simp[World.frozen?,B]
 have G:(w.setCell ⟨x,73,none⟩ (.int .i64 n)).heap[x]? =some (.cells (bY Gg (.slice none 0 0) n) 334 (0,0)):=by
  rw[aG B,LJ C]
 have J:Keeps (λ b=>b=x) w (w.setCell ⟨x,73,none⟩ (.int .i64 n)):=Keeps.jy w ⟨x,73,none⟩ (.int .i64 n);have Xl:(w.setCell ⟨x,73,none⟩ (.int .i64 n)).cell? ⟨x,72,none⟩=some (.slice none 0 0):=by simp only[World.cell?,G];exact tX C _ _
 have e0:IntKind.i64.wrap (0+(n:Int))=(n:Int):=by rw[Int.zero_add];exact aaf _ (by omega)
 have dI:IntKind.i64.wrap (n:Int)=(n:Int):=aaf _ (by omega);have aF:acr (ah S (w.setCell ⟨x,73,none⟩ (.int .i64 n)) a n (z.map bv)):=hr.move (by rw[size_set];exact Nat.le_refl _) λ b D H=>⟨D,aI _ _ _ _ (A b D)⟩;have qP:=acp G;have yH:=acp J;have HS:=acp A;have X:z.length=n:=by simpa using hr.length
 have uU:=acp X;clear hi B G hr A J X C;go_enter Tryz.func209,Tryz.ntmps209;go_wp2_with fail;have aA:(w.setCell ⟨x,73,none⟩ (.int .i64 n)).heap.size=w.heap.size:=size_set _ _ _;generalize w.setCell ⟨x,73,none⟩ (.int .i64 n)=w1 at*;have bn:=acp aA;clear aA
 go_loopw [1] (λ v wx=>∃(k:Nat) (F:Mx) (c':Nat),v= .slice F (n-64*k) c'/\64*k<=n/\n-64*k<=c'/\ah S wx F (n-64*k) ((z.drop (64*k)).map bv)/\wx.heap[x]? =some (.cells (bY (runM Gg k z) (.slice none 0 0) n) 334 (0,0))/\Keeps (λ b=>b=x) w wx) (λ v _=>match v with| .slice _ m _=>m|_=>0)
 case atStart=>exact⟨0,a,c,rfl,by omega,by omega,aF.o,qP.o,yH.o⟩
 case round=>
  obtain⟨k,F,c',rfl,hk,aD,P,u,LK⟩:=hrel;have C:(runM Gg k z).length=8:=kL k _ _ rfl;obtain⟨m,hm⟩:∃m,m=n-64*k:=⟨_,rfl⟩;rw[<-hm]at P aD⊢;have Xm:x<wr.heap.size:=(qW.1 u).1;have zN:=acp u;have O:=acp LK;have OU:=acp P;have HM:=acp hm;have av:=acp hk;have dG:m<=n:=by omega
  by_cases bf:64<=m
  ·have hd:decide ((64:Int)<=(m:Int))=true:=by simp;omega
   have R:wr.drew.heap[x]? =some (.cells ((runM Gg k z).map gU++(kM.map gU++[Value.slice none 0 0,Value.int .i64 n])).toArray 334 (0,0)):=by
    have E:=u;unfold bY at E;exact E
   have I:∀i,i<64->wr.drew.cell? ⟨x,8+i,none⟩=some (gU (kM.getD i 0)):=λ i hi=>by
    have E:=st_k C (.slice none 0 0) n i hi;show wr.cell? ⟨x,8+i,none⟩=_;simp only[World.cell?,u];exact E
   have LM:ah S wr.drew F 64 (((z.drop (64*k)).take 64).map bv):=by
    have:=(P.take 64).below acu.drew acs
    rwa [aa3 bf,<-aaJ]at this
   have HT:=acp (Af x x 8 334 (runM Gg k z) (kM.map gU++[Value.slice none 0 0,Value.int .i64 n]) F 64 c' ((z.drop (64*k)).take 64) wr.drew C R I Xm LM acs (by omega));have g1:(64:Int)<=(c':Int):=by omega
   have g2:(64:Int)<=(m:Int):=by omega
   have g3:(m:Int)<=(c':Int):=by omega
   clear u LK P hm R I LM C;go_wp2_with fail;refine vJ 8 ((λ _=>True)) ?_ λ A=> ?_
   ·trivial
   refine aO 0 A ?_;refine aO 1 A ?_;refine aO 2 A ?_;refine aO 3 A ?_;refine aO 4 A ?_;refine aO 5 A ?_;refine aO 6 A ?_;refine aO 7 A ?_;refine cu 8 λ K hK=> ?_;go_simp;refine HT.o.mono ?_;rintro e w2 ⟨rfl,Z,W⟩;have Tx:=acp Z;have Di:=acp W;clear Z W;go_wp2_with fail;refine o_ hK ?_;clear A hK K;go_wp2_with fail;go_roundw
   case rel=>
    have e1:n-64*(k+1)=m-64:=by have:=HM.o;omega
    have aC:Keeps (λ b=>b=x) w w2:=(O.o.trans (show Keeps (λ b=>b=x) wr wr.drew from⟨rfl,rfl,rfl,Nat.le_refl _,λ _ _ _=>rfl⟩) λ x _ B=>B).trans Di.o λ x _ B=>B;have aJ:ah S w2 F m ((z.drop (64*k)).map bv):=OU.o.move Di.o.size λ b D H=>⟨D,Di.o.block b H (HS.o b D)⟩;have e2:(z.drop (64*(k+1))).map bv=((z.drop (64*k)).map bv).drop 64:=by
     rw[<-aaU,aaV];congr 2
    refine⟨k+1,_,c'-64,by rw[e1],by have:=HM.o;omega,by rw[e1];omega,?_,?_,aC⟩
    ·rw[e1,e2];obtain⟨b,cB,rfl,-,-,-⟩:=OU.o.at_ (by omega);by_cases hc:c'=64
     ·rw[if_pos hc];refine ah.zero _ _ _ (by omega) (aay ?_);rw[List.length_map,List.length_drop,uU.o];have:=HM.o;omega
     ·rw[if_neg hc];exact aJ.drop 64
    ·rw[xG];exact Tx.o
   case measure=>show m-64<m;omega
  ·have hd:decide ((64:Int)<=(m:Int))=false:=by simp;omega
   have Q:n/64=k:=by have:=HM.o;have:=av.o;omega
   have Tz:n%64=m:=by have:=HM.o;have:=av.o;omega
   have Xl:wr.cell? ⟨x,72,none⟩=some (.slice none 0 0):=by simp only[World.cell?,u];exact tX C _ _
   have bq:wr.frozen? ⟨x,72,none⟩=false:=by simp[World.frozen?,u]
   have aB:=acp Q;have N:=acp Tz;have aL:w.heap.size<=wr.heap.size:=LK.size;have Y:0+m<=maxLen:=by unfold maxLen;omega
   have M:(0+m)*1<=140737488355328:=by omega
   have aN:=acp Y;have O6:=acp M;clear Y M;clear u LK P hm Q Tz C;go_wp2_with (at_builtin;refine jM rfl _ _ 30 rfl w.heap.size 5 i8 _ 1 1 Tryz.underlying30 HI.o.1 HI.o.2.1 HI.o.2.2.1 HI.o.2.2.2 rfl (by omega) (.slice none 0 0) 0 [] rfl ⟨rfl,.inl ⟨rfl,rfl⟩⟩ F m c' ((z.drop (64*k)).map bv) rfl (ES OU.o) (jA _) aN.o O6.o aL ?_;intro A9 c9 V sF Gh U;rw[Nat.zero_add,List.nil_append]at sF;have Bw:V.heap[x]? =wr.heap[x]? :=Gh.block x Xm (by simp[Value.ownBlock]);have ZR:=acp sF;have CP:=acp Bw;have q9:V.cell? ⟨x,72,none⟩=some (.slice none 0 0):=(World.cell?_of_block (w:=wr) (w':=V) (a:=⟨x,72,none⟩) Bw).trans Xl;have f9:V.frozen? ⟨x,72,none⟩=false:=(by simp[World.frozen?,Bw,zN.o]);have aH:=acp Gh;have ak:=acp U;clear sF Bw Gh U;rw[Nat.zero_add])
   go_end0
   refine⟨rfl,.slice A9 m c9,?_,?_,?_⟩
   ·rw[aG (CP.o.trans zN.o),aB.o];rw[Ag (kL k _ _ rfl)]
   ·rw[N.o,aB.o];refine bK ZR.o λ b D H=>aI _ _ _ _ ?_;intro e;have U:=ak.o;rw[Nat.zero_add]at U;rcases U with E|E
    ·rw[E]at D;simp[Value.ownBlock]at D
    ·rw[E]at D;cases D;have:wr.heap.size=x:=e;omega
   ·exact(O.o.trans ((Keeps.grown aH.o).mono λ y _ hy=>by simp[Value.ownBlock]at hy) λ x _ B=>B).trans (Keeps.jy V ⟨x,72,none⟩ _) λ x _ B=>B
def tY(n:Nat):Nat:=(119-n%64)%64
def GH(rest:I8)(n:Nat):List UInt8:=rest++[128]++List.replicate (tY rest.length) 0++bF ((n:Int)*8) 8
def LP(h:List Int):List UInt8:=h.flatMap λ z=>bF (z%4294967296) 4
def jh(m:I8):List UInt8:=
 LP (runM (runM Gg (m.length/64) m) ((GH (m.drop (m.length/64*64)) m.length).length/64) (GH (m.drop (m.length/64*64)) m.length))
theorem eu(m:I8):(jh m).length=32:=by
 unfold jh LP;have u:=kL ((GH (m.drop (m.length/64*64)) m.length).length/64) (runM Gg (m.length/64) m) (GH (m.drop (m.length/64*64)) m.length) (kL _ _ _ rfl);generalize runM _ _ _=h at u
 match h,u with
 |[a,b,c,d,e,f,g,i],_=>rfl
theorem LQ(r j:Nat)(m:j<=tY r):((r+1+j)%64=56↔j=tY r):=by
 unfold tY at*;omega
theorem Xn(m r1 r2 A y B z u:Int)(w:World):(Instr.index 329 (.agg #[.int .u32 m,.int .u32 r1,.int .u32 r2,.int .u32 A,.int .u32 y,.int .u32 B,.int .u32 z,.int .u32 u]) (.int .i64 0)).run Tryz.prog w= .ok (.int .u32 m) w:=by
 kernel_rfl
theorem Xo(u r1 r2 A y B z m:Int)(w:World):(Instr.index 329 (.agg #[.int .u32 u,.int .u32 r1,.int .u32 r2,.int .u32 A,.int .u32 y,.int .u32 B,.int .u32 z,.int .u32 m]) (.int .i64 1)).run Tryz.prog w= .ok (.int .u32 r1) w:=by
 kernel_rfl
theorem Xp(u r1 r2 A y B z m:Int)(w:World):(Instr.index 329 (.agg #[.int .u32 u,.int .u32 r1,.int .u32 r2,.int .u32 A,.int .u32 y,.int .u32 B,.int .u32 z,.int .u32 m]) (.int .i64 2)).run Tryz.prog w= .ok (.int .u32 r2) w:=by
 kernel_rfl
theorem Xq(y r1 r2 m z B A u:Int)(w:World):(Instr.index 329 (.agg #[.int .u32 y,.int .u32 r1,.int .u32 r2,.int .u32 m,.int .u32 z,.int .u32 B,.int .u32 A,.int .u32 u]) (.int .i64 3)).run Tryz.prog w= .ok (.int .u32 m) w:=by
 kernel_rfl
theorem Xr(y r1 r2 A m B z u:Int)(w:World):(Instr.index 329 (.agg #[.int .u32 y,.int .u32 r1,.int .u32 r2,.int .u32 A,.int .u32 m,.int .u32 B,.int .u32 z,.int .u32 u]) (.int .i64 4)).run Tryz.prog w= .ok (.int .u32 m) w:=by
 kernel_rfl
theorem Xt(y r1 r2 B z m A u:Int)(w:World):(Instr.index 329 (.agg #[.int .u32 y,.int .u32 r1,.int .u32 r2,.int .u32 B,.int .u32 z,.int .u32 m,.int .u32 A,.int .u32 u]) (.int .i64 5)).run Tryz.prog w= .ok (.int .u32 m) w:=by
 kernel_rfl
theorem Xu(y r1 r2 A z B m u:Int)(w:World):(Instr.index 329 (.agg #[.int .u32 y,.int .u32 r1,.int .u32 r2,.int .u32 A,.int .u32 z,.int .u32 B,.int .u32 m,.int .u32 u]) (.int .i64 6)).run Tryz.prog w= .ok (.int .u32 m) w:=by
 kernel_rfl
theorem Xv(u r1 r2 A y B z m:Int)(w:World):(Instr.index 329 (.agg #[.int .u32 u,.int .u32 r1,.int .u32 r2,.int .u32 A,.int .u32 y,.int .u32 B,.int .u32 z,.int .u32 m]) (.int .i64 7)).run Tryz.prog w= .ok (.int .u32 m) w:=by
 kernel_rfl
theorem index8(u r1 r2 A y B z m:Int)(k:Nat)(C:k<8)(w:World):(Instr.index 329 (.agg #[.int .u32 u,.int .u32 r1,.int .u32 r2,.int .u32 A,.int .u32 y,.int .u32 B,.int .u32 z,.int .u32 m]) (.int .i64 k)).run Tryz.prog w= .ok (.int .u32 (([u,r1,r2,A,y,B,z,m]:List Int).getD k 0)) w:=by
 match k,C with
 |0,_=>exact Xn u r1 r2 A y B z m w
 |1,_=>exact Xo u r1 r2 A y B z m w
 |2,_=>exact Xp u r1 r2 A y B z m w
 |3,_=>exact Xq u r1 r2 A y B z m w
 |4,_=>exact Xr u r1 r2 A y B z m w
 |5,_=>exact Xt u r1 r2 A y B z m w
 |6,_=>exact Xu u r1 r2 A y B z m w
 |7,_=>exact Xv u r1 r2 A y B z m w
theorem be4(z:Int):[Value.int .u8 (z/16777216%256),.int .u8 (z/65536%256),.int .u8 (z/256%256),.int .u8 (z%256)]=(bF (z%4294967296) 4).map bv:=by
 unfold bF bF bF bF bF;simp[bv];refine⟨?_,?_,?_,?_⟩<;>omega
theorem TA{R:List Int}{k:Nat}(m:k<R.length):LP (R.take (k+1))=LP (R.take k)++bF (R.getD k 0%4294967296) 4:=by
 unfold LP;rw[aai m,abF,aa4,List.getElem?_eq_getElem m];simp
theorem TB(r:Nat):tY r<64:=by unfold tY;omega
theorem LU(x:Nat)(h:List Int)(v:Value)(n r:Nat)(rest:I8)(w:World)(hh:h.length=8)(hx:w.heap[x]? =some (.cells (bY h v n) 334 (0,0)))(hv:w.ownsRow 0 5 1 v r (rest.map bv))(hr:r<64)(hn:n<=100000000):
  Dy 210 #[ptr x] w (gH w (LP (runM h ((GH rest n).length/64) (GH rest n)))):=by
 obtain⟨i8,hi⟩:∃i,Tryz.prog.info? 5=some i/\i.zero=some (.int .u8 0)/\i.size=1/\i.bytes=1:=aaq (by kernel_rfl);have C:=acp hi;obtain⟨a,c,rfl,mQ⟩:=bg hv;obtain⟨-,-,J⟩:=ah.kg hv (by unfold maxLen;omega);rw[Nat.mul_one]at J;have dV:rest.length=r:=by simpa using J.length
 have ig:=(qW.1 hx).1;have nA:w.cell? ⟨x,72,none⟩=some (.slice a r c):=by simp only[World.cell?,hx];exact tX hh _ _
 have wm:=acp (OY a r c rest w (by omega) J);have HX:=acp hx;have ZT:=acp hh;have iD:=acp dV;clear hi hx hv J hh dV;go_enter Tryz.func210,Tryz.ntmps210;go_wp2_with fail;refine wm.o.mono ?_;rintro e w1 ⟨v1,rfl,F,iN⟩;obtain⟨a1,c1,rfl,bD⟩:=bg F;rw[iD.o]at F bD⊢;have Xk:=acp F;have bf:=acp iN;clear F iN;go_wp2_with (at_builtin;refine dU rfl _ _ 30 rfl w.heap.size 5 i8 _ 1 1 Tryz.underlying30 C.o.1 C.o.2.1 C.o.2.2.1 C.o.2.2.2 rfl (by omega) (.slice a1 r c1) r (rest.map bv) rfl (bK Xk.o λ b D y=>(wall w1 _).block b y) (some ⟨w1.heap.size,0,none⟩) 1 1 [bv 128] rfl (jr (w:=w1) [bv 128] 5 (by simp[maxLen])) (by simp[Value.oneCell',bv]) (by unfold maxLen;omega) (by omega) (by have:=bf.o.size;simp;omega) ?_;intro A2 c2 w2 V gM;have Nr:=acp V;have lI:=acp ((bf.o.trans ((wall w1 _).mono bf.o.size)).trans gM);clear V gM)
 go_loopw [3] (λ v Q=>∃(j:Nat) (H:Mx) (c':Nat),v= .slice H (r+1+j) c'/\j<=tY r/\Q.ownsRow w.heap.size 5 1 v (r+1+j) ((rest++[128]++List.replicate j 0).map bv)/\Below w.heap.size w Q) (λ v _=>200-(match v with| .slice _ m _=>m|_=>0))
 case atStart=>exact⟨0,A2,c2,rfl,Nat.zero_le _,by simpa using Nr.o,lI.o⟩
 case round=>
  obtain⟨j,H,c',rfl,hj,A,D⟩:=hrel;have HO:=acp A;have HB:=acp D;have hz:=TB r;have W:=LQ r j hj;obtain⟨m,hm⟩:∃m,m=r+1+j:=⟨_,rfl⟩;rw[<-hm]at HO W⊢;have HM:=acp hm;have jy:m<=200:=by omega
  clear A D hm;by_cases av:j=tY r
  ·have bS:m%64=56:=W.2 av;have hd:((m:Int)%64 !=56)=false:=by simp;omega
   have ZO:wr.heap[x]? =some (.cells (bY h (.slice a r c) n) 334 (0,0)):=(HB.o.block x ig).trans HX.o;have mU:wr.cell? ⟨x,73,none⟩=some (.int .i64 n):=by simp only[World.cell?,ZO];exact st_n ZT.o _ _
   have e1:IntKind.u64.wrap (n:Int)=(n:Int):=by simp[IntKind.wrap,IntKind.bits,IntKind.signed];omega
   have e2:IntKind.u64.wrap ((n:Int)*8)=(n:Int)*8:=by simp[IntKind.wrap,IntKind.bits,IntKind.signed];omega
   obtain⟨P,hP⟩:∃P,P=rest++[128]++List.replicate j 0:=⟨_,rfl⟩;rw[<-hP]at HO;have jc:acr (P=rest++[128]++List.replicate (tY rest.length) 0):=by
    show P=_;rw[hP,av,iD.o]
   have Nt:acr ((m+8)%64=0):=by show(m+8)%64=0;omega
   clear W bS av ZO hP;go_wp2_with fail;obtain⟨N,hN⟩:∃N:Int,N=(n:Int)*8:=⟨_,rfl⟩;rw[<-hN];have jm:0<=N:=by omega
   have HN:=acp hN;clear hN e2
   go_loopw [3,5] (λ v kv Q=>∃(k:Nat) (U:I8) (H:Mx) (c':Nat),v= .slice H (m+U.length) c'/\kv= .int .i64 ((k:Int)-1)/\k<=8/\U++bF N k=bF N 8/\U.length+k=8/\Q.ownsRow w.heap.size 5 1 v (m+U.length) ((P++U).map bv)/\Below w.heap.size w Q) (λ _ kv _=>((intOf kv)+1).toNat)
   case atStart=>exact⟨8,[],H,c',rfl,by go_num,by omega,rfl,rfl,by simpa using HO.o,HB.o⟩
   case round=>
    obtain⟨k,U,a3,c3,rfl,rfl,hk,bT,l7,A,D⟩:=hrel;have LV:=acp A;have I:=acp D;have NW:=acp bT;obtain⟨G,Jl⟩:∃G,G=m+U.length:=⟨_,rfl⟩;rw[<-Jl]at LV⊢;have zT:=acp Jl;have l9:G<=208:=by omega
    clear A D bT Jl;cases k with
    |zero=>
     have e0:((0:Nat):Int)-1= -1:=by omega
     rw[e0];have aD:U=bF N 8:=by
      have B:=NW.o;unfold bF at B;rw[aaz]at B;rw[B];rfl
     obtain⟨E,hE⟩:∃E,E=P++U:=⟨_,rfl⟩;rw[<-hE]at LV;have iO:E.length=G:=by have:=LV.o.1;simp at this;omega
     have kW:acr (E=GH rest n):=by
      show E=GH rest n;rw[hE,aD,jc.o,HN.o];rfl
     have Tz:G%64=0:=by have:=zT.o;have:=Nt.o;omega
     have ZO:wr.heap[x]? =some (.cells (bY h (.slice a r c) n) 334 (0,0)):=(I.o.block x ig).trans HX.o;have aB:x<wr.heap.size:=(qW.1 ZO).1;obtain⟨h0,h1,h2,h3,h4,h5,h6,h7,ZU⟩:=eight ZT.o;have S:∀i,i<8->wr.cell? ⟨x,i,none⟩=some (gU (h.getD i 0)):=λ i hi=>by
      have B:=st_h ZT.o (.slice a r c) n i hi;simp only[World.cell?,ZO];exact B
     have c0:wr.cell? ⟨x,0,none⟩=some (.int .u32 h0):=by have:=S 0 (by omega);rw[ZU]at this;exact this
     have c1:wr.cell? ⟨x,1,none⟩=some (.int .u32 h1):=by have:=S 1 (by omega);rw[ZU]at this;exact this
     have c2:wr.cell? ⟨x,2,none⟩=some (.int .u32 h2):=by have:=S 2 (by omega);rw[ZU]at this;exact this
     have l5:wr.cell? ⟨x,3,none⟩=some (.int .u32 h3):=by have:=S 3 (by omega);rw[ZU]at this;exact this
     have c4:wr.cell? ⟨x,4,none⟩=some (.int .u32 h4):=by have:=S 4 (by omega);rw[ZU]at this;exact this
     have c5:wr.cell? ⟨x,5,none⟩=some (.int .u32 h5):=by have:=S 5 (by omega);rw[ZU]at this;exact this
     have c6:wr.cell? ⟨x,6,none⟩=some (.int .u32 h6):=by have:=S 6 (by omega);rw[ZU]at this;exact this
     have c7:wr.cell? ⟨x,7,none⟩=some (.int .u32 h7):=by have:=S 7 (by omega);rw[ZU]at this;exact this
     have jL:=acp ZU;have ko:=acp ZO;have HE:=acp hE;clear S ZU ZO hE aD l7 hk;go_wp2_with fail;have aJ:=(MapKept.heap_alloc wr (.cells #[.int .u32 h0,.int .u32 h1,.int .u32 h2,.int .u32 h3,.int .u32 h4,.int .u32 h5,.int .u32 h6,.int .u32 h7] 329)).1;have O:=wall wr (.cells #[.int .u32 h0,.int .u32 h1,.int .u32 h2,.int .u32 h3,.int .u32 h4,.int .u32 h5,.int .u32 h6,.int .u32 h7] 329);obtain⟨u,M⟩:∃z,z=wr.heap.size:=⟨_,rfl⟩;rw[<-M]at aJ⊢;have Im:Below w.heap.size w (wr.alloc (.cells #[.int .u32 h0,.int .u32 h1,.int .u32 h2,.int .u32 h3,.int .u32 h4,.int .u32 h5,.int .u32 h6,.int .u32 h7] 329)):=I.o.trans (O.mono I.o.size);have dM:=bK LV.o λ b D y=>O.block b y;have l8:w.heap.size<=u:=by rw[M];exact I.o.size
     have OM:∀b,(Value.slice a3 G c3).ownBlock=some b->b<u:=λ b D=>by rw[M];exact iK LV.o b D
     generalize wr.alloc (.cells #[.int .u32 h0,.int .u32 h1,.int .u32 h2,.int .u32 h3,.int .u32 h4,.int .u32 h5,.int .u32 h6,.int .u32 h7] 329)=w5 at*;have aF:w5.heap[u]? =some (.cells ((h.map gU++[]).toArray) 329 (0,0)):=by
      rw[jL.o,aaz];exact aJ
     have Kq:acr (∀i,i<64->w5.cell? ⟨x,8+i,none⟩=some (gU (kM.getD i 0))):=λ i hi=>by
      have B:=st_k ZT.o (.slice a r c) n i hi;rw[O.cell (p:=⟨x,8+i,none⟩) aB];simp only[World.cell?,ko.o];exact B
     have aA:x<w5.heap.size:=Pd aB O.size;have gL:x≠u:=by omega
     have X:ah (λ b=>b≠u) w5 a3 G (E.map bv):=by
      obtain⟨-,-,B⟩:=ah.kg LV.o (by unfold maxLen;omega);rw[Nat.mul_one]at B;exact(B.below O acs).mono λ b D=>by omega
     have mo:G<=c3:=by
      obtain⟨_,_,e,B⟩:=bg LV.o;cases e;exact B
     have Io:=acp X;have bn:=acp aF;have dK:=acp Im;have JI:=acp dM;have mR:=acp OM;have gy:=acp iO;clear X aJ aF Im dM OM iO O M c0 c1 c2 l5 c4 c5 c6 c7
     go_loopw [3] (λ v Q=>∃(k:Nat) (H:Mx) (c':Nat),v= .slice H (G-64*k) c'/\64*k<=G/\G-64*k<=c'/\ah (λ b=>b≠u) Q H (G-64*k) ((E.drop (64*k)).map bv)/\Q.heap[u]? =some (.cells (((runM h k E).map gU++[]).toArray) 329 (0,0))/\Keeps (λ b=>b=u) w5 Q) (λ v _=>match v with| .slice _ m _=>m|_=>0)
     case atStart=>exact⟨0,a3,c3,rfl,by omega,by omega,Io.o,bn.o,Keeps.refl _ _⟩
     case round=>
      obtain⟨k,H,c',rfl,hk,jl,GD,Y,LK⟩:=hrel;have h8:(runM h k E).length=8:=kL k _ _ ZT.o;obtain⟨q,hq⟩:∃q,q=G-64*k:=⟨_,rfl⟩;rw[<-hq]at GD jl⊢;have zN:=acp Y;have jG:=acp LK;have OU:=acp GD;have HQ:=acp hq;have iE:x<wr.heap.size:=Pd aA LK.size;by_cases mq:0<q
      ·have l6:64<=q:=by omega
       have hd:decide ((0:Int)<(q:Int))=true:=by simp;omega
       have bq:∀i,i<64->wr.drew.cell? ⟨x,8+i,none⟩=some (gU (kM.getD i 0)):=λ i hi=>by
        have B:=Kq.o i hi;rw[<-B];exact World.cell?_of_block (w:=w5) (w':=wr.drew) (a:=⟨x,8+i,none⟩) (LK.block x aA gL)
       have LM:ah (λ b=>b≠u) wr.drew H 64 (((E.drop (64*k)).take 64).map bv):=by
        have:=(GD.take 64).below acu.drew acs
        rwa [aa3 l6,<-aaJ]at this
       have HT:=acp (Af u x 8 329 (runM h k E) [] H 64 c' ((E.drop (64*k)).take 64) wr.drew h8 Y bq iE LM acs (by omega));have g1:(64:Int)<=(c':Int):=by omega
       have g2:(64:Int)<=(q:Int):=by omega
       have g3:(q:Int)<=(c':Int):=by omega
       clear Y LK GD hq bq LM h8;go_wp2_with fail;refine vJ 5 ((λ _=>True)) ?_ λ hS=> ?_
       ·trivial
       refine aO 0 hS ?_;refine aO 1 hS ?_;refine aO 2 hS ?_;refine aO 3 hS ?_;refine aO 4 hS ?_;refine cu 5 λ K hK=> ?_;go_simp;refine HT.o.mono ?_;rintro e w6 ⟨rfl,iM,fK⟩;have iT:=acp iM;have aH:=acp fK;clear iM fK;go_wp2_with fail;refine o_ hK ?_;clear hS hK K;go_wp2_with fail;go_roundw
       case rel=>
        have e1:G-64*(k+1)=q-64:=by have:=HQ.o;omega
        have jw:Keeps (λ b=>b=u) w5 w6:=(jG.o.trans (show Keeps (λ b=>b=u) wr wr.drew from⟨rfl,rfl,rfl,Nat.le_refl _,λ _ _ _=>rfl⟩) λ x _ hx=>hx).trans aH.o λ x _ hx=>hx;have lC:ah (λ b=>b≠u) w6 H q ((E.drop (64*k)).map bv):=OU.o.move aH.o.size λ b D y=>⟨D,aH.o.block b y D⟩;have e2:(E.drop (64*(k+1))).map bv=((E.drop (64*k)).map bv).drop 64:=by
         rw[<-aaU,aaV];congr 2
        refine⟨k+1,_,c'-64,by rw[e1],by have:=HQ.o;omega,by rw[e1];omega,?_,?_,jw⟩
        ·rw[e1,e2];obtain⟨b,mY,rfl,-,-,-⟩:=OU.o.at_ (by omega);by_cases S:c'=64
         ·rw[if_pos S];refine ah.zero _ _ _ (by omega) (aay ?_);rw[List.length_map,List.length_drop,gy.o];have:=HQ.o;omega
         ·rw[if_neg S];exact lC.drop 64
        ·rw[xG];exact iT.o
       case measure=>show q-64<q;omega
      ·have hd:decide ((0:Int)<(q:Int))=false:=by simp;omega
       have JG:G/64=k:=by have:=HQ.o;omega
       have B:=zN.o;rw[aaz]at B;obtain⟨R,hR⟩:∃R,R=runM h k E:=⟨_,rfl⟩;rw[<-hR]at B h8;have tO:acr (R=runM h ((GH rest n).length/64) (GH rest n)):=by
        show R=_;rw[hR,<-kW.o,gy.o,JG]
       have Dk:=acp B;have d9:Below w.heap.size w wr:=dK.o.trans (LK.bS dK.o.size λ b D (he:b=u)=>by omega);have AQ:=acp d9;obtain⟨r0,r1,r2,r3,r4,r5,r6,r7,aN⟩:=eight h8;have fT:u<wr.heap.size:=(qW.1 Y).1;have lN:acr (∀w':World,w'.heap[u]? =wr.heap[u]? ->w'.cell? ⟨u,0,none⟩=some (.int .u32 r0)/\w'.cell? ⟨u,1,none⟩=some (.int .u32 r1)/\w'.cell? ⟨u,2,none⟩=some (.int .u32 r2)/\w'.cell? ⟨u,3,none⟩=some (.int .u32 r3)/\w'.cell? ⟨u,4,none⟩=some (.int .u32 r4)/\w'.cell? ⟨u,5,none⟩=some (.int .u32 r5)/\w'.cell? ⟨u,6,none⟩=some (.int .u32 r6)/\w'.cell? ⟨u,7,none⟩=some (.int .u32 r7)):=λ w' hw=>by
        rw[Dk.o,aN]at hw;refine⟨?_,?_,?_,?_,?_,?_,?_,?_⟩<;>simp[World.cell?,hw]
       have TD:=acp aN;clear Y LK GD hq B hR JG d9 aN h8;go_wp2_with (at_make;refine wpList_make_own _ rfl _ _ 30 rfl w.heap.size 5 i8 (.int .u8 0) 1 Tryz.underlying30 C.o.1 C.o.2.1 C.o.2.2.1 .i64 .i64 32 32 rfl rfl rfl (by rw[C.o.2.2.2];omega) (by unfold maxLen;omega) AQ.o.size ?_;intro w7 Z O7;have jo:=acp Z;have aC:=O7.block u fT (λ e=>by cases e);obtain⟨z0,z1,z2,z3,z4,z5,z6,z7⟩:=lN.o w7 aC;have nE:=acp (AQ.o.grown O7 AQ.o.size (λ k hk=>by cases hk));clear Z O7 aC)
       go_loopw [7,9,59] (λ v _ iv Q=>∃(k:Nat) (H:Mx) (c':Nat),v= .slice H (4*k) c'/\iv= .int .i64 k/\k<=8/\Q.ownsRow w.heap.size 5 1 v (4*k) ((LP (R.take k)).map bv)/\Below w.heap.size w Q) (λ _ _ iv _=>8-(intOf iv).toNat)
       case atStart=>exact⟨0,_,32,rfl,rfl,by omega,jo.o,nE.o⟩
       case round=>
        obtain⟨k,H,c',rfl,rfl,hk,A,D⟩:=hrel;have ZQ:=acp A;have qY:=acp D;clear A D;by_cases dN:k<8
        ·have hd:decide ((k:Int)<8)=true:=by simp;omega
         have cB:=index8 r0 r1 r2 r3 r4 r5 r6 r7 k dN;rw[<-TD.o]at cB;obtain⟨z,hz⟩:∃z,z=R.getD k 0:=⟨_,rfl⟩;rw[<-hz]at cB;have HZ:=acp hz;clear hz;go_wp2_with (at_builtin;refine dU rfl _ _ 30 rfl w.heap.size 5 i8 _ 1 1 Tryz.underlying30 C.o.1 C.o.2.1 C.o.2.2.1 C.o.2.2.2 rfl (by omega) (.slice H (4*k) c') (4*k) ((LP (R.take k)).map bv) rfl (bK ZQ.o λ b D y=>(wall wr _).block b y) (some ⟨wr.heap.size,0,none⟩) 4 4 [.int .u8 (z/16777216%256),.int .u8 (z/65536%256),.int .u8 (z/256%256),.int .u8 (z%256)] rfl (jr (w:=wr) [.int .u8 (z/16777216%256),.int .u8 (z/65536%256),.int .u8 (z/256%256),.int .u8 (z%256)] 5 (by simp[maxLen])) (by simp[Value.oneCell']) (by unfold maxLen;omega) (by omega) (by have:=qY.o.size;simp;omega) ?_;intro A9 c9 w9 sF dG;have ZR:=acp sF;have pK:=acp ((qY.o.trans ((wall wr _).mono qY.o.size)).trans dG);clear sF dG);go_roundw
         case rel=>
          have e9:4*(k+1)=4*k+4:=by omega
          refine⟨k+1,A9,c9,by rw[e9],by go_num,by omega,?_,pK.o⟩;rw[e9,TA (by rw[TD.o];exact dN),aas,<-HZ.o,<-be4];exact ZR.o
         case measure=>simp[intOf];omega
        ·have hd:decide ((k:Int)<8)=false:=by simp;omega
         have Ny:k=8:=by omega
         go_wp2_with fail;go_ret;have B:=ZQ.o;rw[Ny,List.take_of_length_le (by rw[TD.o];exact Nat.le_refl 8),tO.o]at B;obtain⟨-,Dj,lX⟩:=ah.kg B (by unfold maxLen;omega);rw[Ny];exact⟨H,4*8,c',rfl,Dj,by simpa using lX,qY.o⟩
    |succ k=>
     have nC:(0:Int)<=k:=by omega
     have e3:((k+1:Nat):Int)-1=(k:Int):=by omega
     rw[e3];have e4:IntKind.i64.wrap (8*(k:Int))=8*(k:Int):=aaf _ (by omega);have ni:decide ((0:Int)<=(k:Int))=true:=by simp
     have y:=Ho jm k;obtain⟨b0,aL⟩:∃b0,b0=UInt8.ofNat ((N/2^(8*k)).toNat%256):=⟨_,rfl⟩;rw[<-aL]at y;have jv:acr (Value.int .u8 (N/2^(8*k)%256)=bv b0):=by
      show Value.int .u8 (N/2^(8*k)%256)=bv b0;have e9:(8*(k:Int)).toNat=8*k:=by omega
      rw[e9]at y;simp only[IntKind.wrap,IntKind.bits,IntKind.signed]at y;simp at y;simp[bv];omega
     have kg:=acp aL;clear aL y;go_wp2_with (at_builtin;refine dU rfl _ _ 30 rfl w.heap.size 5 i8 _ 1 1 Tryz.underlying30 C.o.1 C.o.2.1 C.o.2.2.1 C.o.2.2.2 rfl (by omega) (.slice a3 G c3) G ((P++U).map bv) rfl (bK LV.o λ b D y=>(wall wr _).block b y) (some ⟨wr.heap.size,0,none⟩) 1 1 [.int .u8 (N/2^(8*k)%256)] rfl (jr (w:=wr) [.int .u8 (N/2^(8*k)%256)] 5 (by simp[maxLen])) (by simp[Value.oneCell']) (by unfold maxLen;omega) (by omega) (by have:=I.o.size;simp;omega) ?_;intro A4 c4 w4 kN ak;have Xw:=acp kN;have dI:=acp ((I.o.trans ((wall wr _).mono I.o.size)).trans ak);clear kN ak);go_roundw
     case rel=>
      have e9:m+(U++[b0]).length=G+1:=by have:=zT.o;simp;omega
      refine⟨k,U++[b0],A4,c4,by rw[e9],by go_num,by omega,?_,by simp;omega,?_,dI.o⟩
      ·rw[List.append_assoc,<-NW.o,kg.o];rfl
      ·rw[e9];have h8:=Xw.o;rw[jv.o]at h8;simpa using h8
     case measure=>simp[intOf]
  ·have bS:¬m%64=56:=λ e=>av (W.1 e);have hd:((m:Int)%64 !=56)=true:=by simp;omega
   clear W;go_wp2_with (at_builtin;refine dU rfl _ _ 30 rfl w.heap.size 5 i8 _ 1 1 Tryz.underlying30 C.o.1 C.o.2.1 C.o.2.2.1 C.o.2.2.2 rfl (by omega) (.slice H m c') m ((rest++[128]++List.replicate j 0).map bv) rfl (bK HO.o λ b D y=>(wall wr _).block b y) (some ⟨wr.heap.size,0,none⟩) 1 1 [bv 0] rfl (jr (w:=wr) [bv 0] 5 (by simp[maxLen])) (by simp[Value.oneCell',bv]) (by unfold maxLen;omega) (by omega) (by have:=HB.o.size;simp;omega) ?_;intro A4 c4 w4 kN ak;have Xw:=acp kN;have dI:=acp ((HB.o.trans ((wall wr _).mono HB.o.size)).trans ak);clear kN ak);go_roundw
   case rel=>
    have e9:r+1+(j+1)=m+1:=by have:=HM.o;omega
    refine⟨j+1,A4,c4,by rw[e9],by omega,?_,dI.o⟩;rw[e9,List.replicate_succ'];simpa using Xw.o
   case measure=>show 200-(m+1)<200-m;have:=HM.o;omega
theorem Ah{w:World}{B B':Nat}{e:TypeId}{k:Nat}{v:Value}{n:Nat}{xs:List Value}(h:w.ownsRow B e k v n xs)(C:B'<=B):w.ownsRow B' e k v n xs:=by
 obtain⟨A,m⟩:=h;refine⟨A,?_⟩;rcases m with m|⟨g,u,y,D,E,z⟩
 ·exact .inl m
 ·exact .inr ⟨g,u,y,D,Nat.le_trans C E,z⟩
theorem of_one{S:Nat->Prop}(nb:Nat)(a:Mx)(n c:Nat)(u:I8)(w:World)(hc:w.cell? ⟨nb,0,none⟩=some (.slice a n c))(N:nb<w.heap.size)(O:ah S w a n (u.map bv))(Y:n<=100000000)(M:n<=c):
  Dy 164 #[.slice (some ⟨nb,0,none⟩) 1 1] w (gH w (jh u)):=by
 have G:ah (λ b=>b<w.heap.size) w a n (u.map bv):=O.move acs λ b m P=>⟨P,rfl⟩;have A:u.length=n:=by simpa using O.length
 have HR:=acp G;have uU:=acp A;clear O G A;go_enter Tryz.func164,Tryz.ntmps164;go_wp2_with fail;refine(ER _).mono ?_;rintro e w1 ⟨x,rfl,av,y,E⟩;have HX:=acp y;have U:=acp E;clear y E;go_wp2_with fail
 go_loopw [5,9] (λ _ J H=>(J= .int .i64 0/\H.heap[x]? =some (.cells (bY Gg (.slice none 0 0) 0) 334 (0,0))/\Below w.heap.size w H)\/(J= .int .i64 1/\∃v,H.heap[x]? =some (.cells (bY (runM Gg (n/64) u) v n) 334 (0,0))/\H.ownsRow 0 5 1 v (n%64) ((u.drop (64*(n/64))).map bv)/\Below w.heap.size w H)) (λ _ J _=>1-(intOf J).toNat)
 case atStart=>exact .inl ⟨rfl,HX.o,U.o⟩
 case round=>
  rcases hrel with⟨rfl,y,m⟩|⟨rfl,v,y,X,m⟩
  ·have ak:=(m.cell (p:=⟨nb,0,none⟩) N).trans hc;have R:=acp (Tw x a n c u wr y (HR.o.below m acs) (λ b Z=>by omega) Y M);have I:=acp m;clear y m;go_wp2_with fail;refine R.o.mono ?_;rintro e W ⟨rfl,v,B,D,z⟩;have Tx:=acp B;have Gi:=acp D;have Di:=acp z;clear B D z;go_wp2_with fail;go_roundw
   case rel=>exact .inr ⟨rfl,v,Tx.o,Ah Gi.o (Nat.zero_le _),I.o.trans (Di.o.bS I.o.size λ b m (he:b=x)=>by omega)⟩
   case measure=>decide
  ·have HS:=acp (LU x (runM Gg (n/64) u) v n (n%64) (u.drop (64*(n/64))) wr (kL _ _ _ rfl) y X (Nat.mod_lt _ (by omega)) Y);have I:=acp m;clear y X m;go_wp2_with fail;refine HS.o.mono ?_;rintro e W ⟨a2,n2,c2,rfl,K,F,C⟩;have Q:=acp F;have V:=acp C;clear F C;go_wp2_with fail;go_ret;have hs:=I.o.size;refine⟨a2,n2,c2,rfl,K,?_,I.o.trans (V.o.mono hs)⟩;have h9:=Q.o.mono (S':=λ b=>w.heap.size<=b/\b<W.heap.size) λ b m=>⟨by omega,m.2⟩;unfold jh;rw[uU.o,Nat.mul_comm (n/64) 64];exact h9
theorem xH{S:Nat->Prop}(a:Mx)(n c:Nat)(y:I8)(w:World)(D:ah S w a n (y.map bv))(H:n<=100000000)(B:n<=c):
  Dy 95 #[.slice a n c] w (gH w (jh y)):=by
 have I:=acp (of_one (w:=w.alloc (.cells #[.slice a n c] 30)) w.heap.size a n c y mh (by simp) (D.below (wall w _) acs) H B);clear D;go_enter Tryz.func95,Tryz.ntmps95;go_wp2_with fail;refine I.o.mono ?_;rintro e K ⟨J,G,F,rfl,z,m,u⟩;have A:=acp m;have C:=acp u;clear m u;go_wp2_with fail;go_ret;exact⟨J,G,F,rfl,z,A.o.mono λ b E=>⟨by have:=E.1;simp at this;omega,E.2⟩,(wall w _).trans (C.o.mono (by simp))⟩
def Ai(x:mP):List UInt8:=bF x.id 8++qO x.hash++bF (iA x.t).length 8++iA x.t
def j_(S:qJ):List UInt8:=bF S.next 8++qO S.last++bF S.l.length 1++S.l.flatMap Ai
structure O8(S:qJ):Prop where
 few:S.l.length<=8
 last:S.last.length<=64
 next:0<=S.next/\S.next<=1000000000
 each:∀x∈S.l,(0<=x.id/\x.id<=1000000000)/\x.hash.length<=64
theorem CS{T:aS}(m:fA T):(iA T).length<=6000000:=by
 have z:=Bu m T (λ q u=>u);have y:=m.len;unfold iA;rw[List.length_append,ay];omega
theorem Xx{x:mP}(m:fA x.t)(u:x.hash.length<=64):(Ai x).length<=6000100:=by
 have:=CS m;unfold Ai;simp only[List.length_append,ay,vX];omega
structure SvW(S:qJ):Prop where
 few:S.l.length<=8
 last:S.last.length<=64
 next:0<=S.next/\S.next<=1099511627776
 each:∀x∈S.l,(0<=x.id/\x.id<=1099511627776)/\x.hash.length<=64
theorem O8.w{S:qJ}(h:O8 S):SvW S:=⟨h.few,h.last,⟨h.next.1,by have:=h.next.2;omega⟩,λ x m=>⟨⟨(h.each x m).1.1,by have:=(h.each x m).1.2;omega⟩,(h.each x m).2⟩⟩
theorem ET{o:Mark}{w:World}:∀{vs:List Value} {l:List mP},BA o w vs l->(∀x∈l,x.hash.length<=64)->(l.flatMap Ai).length<=6000100*l.length
 |_,[],_,_=>by simp
 |_,x::r,⟨I,G,D,u,B⟩,m=>by
  obtain⟨a,c,q,F,H,C,E,z⟩:=u;have k1:=Xx z (m x (by simp));have k2:=ET B λ y A=>m y (by simp[A]);rw[List.flatMap_cons,List.length_append,List.length_cons];omega
theorem TF{l:List mP}{k:Nat}{x:mP}(h:l[k]? =some x):(l.take (k+1)).flatMap Ai=(l.take k).flatMap Ai++Ai x:=by
 obtain⟨m,e⟩:=aaj.1 h;rw[aai m,abF,e];simp
theorem GI{o:Mark}{w:World}{vs:List Value}{l:List mP}(h:BA o w vs l)(m:∀x∈l,x.hash.length<=64)(y:l.length<=8)(k:Nat):((l.take k).flatMap Ai).length<=50000000:=by
 have:=ET (h.take k) λ x u=>m x (aaN u);have z:(l.take k).length<=8:=by rw[List.length_take];omega
 omega
def Aside(x:Nat)(v:Value)(u m:Nat):Prop:=∀b,u<=b->b<m->b≠x/\v.ownBlock≠some b
theorem Aside.more{B x C z:Nat}{w w':World}{v F:Value}{A:I8}(h:Aside x v C z)(E:lG B w x v A F w')(G:z<=w.heap.size):Aside x F C z/\∀b,C<=b->b<z->w'.heap[b]? =w.heap[b]? :=by
 refine⟨λ b y u=>⟨(h b y u).1,λ D=> ?_⟩,λ b y u=>E.2.1.block b (by omega) λ D=> ?_⟩
 ·rcases E.2.2 b D with m|m
  ·exact(h b y u).2 m
  ·omega
 ·rcases D with m|m
  ·exact(h b y u).1 m
  ·exact(h b y u).2 m
section
variable{W w:World}{o:Mark}{i s:Nat}{S:qJ}
theorem DU(z:Int)(u:0<=z)(y:z<=1099511627776):∀w,(convert 3 29 (.int .i64 z)).run Tryz.prog w= .ok (.int .u64 z) w:=λ w=>by
 have m:Tryz.prog.intKind 29= .u64:=by kernel_rfl
 have:=run_convert_int (P:=Tryz.prog) w 3 29 .i64 z (by rw[aa2];rfl) (by rw[m];exact Tryz.underlying29);rw[this,m];have e:IntKind.u64.wrap z=z:=by
  show z%18446744073709551616=z;omega
 rw[e]
theorem ssave_w{K:aS->Prop}(hK:∀T,K T->OkW T/\∀k x,au k T=some x->x.names.length<=65535)(hS:qx K o i w s S)(hM:Marks W o w)(hv:SvW S)(dK:∀k,((S.l.take k).flatMap Ai).length<=85000000):Dy 101 #[ptr s] w (El w (j_ S)):=by
 obtain⟨v,la,lc,l7,h1,h2,h3,h4,h5,h6,h7,h8⟩:=hS.at_;obtain⟨a,c,rfl,jc⟩:=bg h4;have tH:=hv.few;obtain⟨-,-,V⟩:=ah.kg h4 (by unfold maxLen;omega);have ZV:=acp h6;have dV:=acp V;have l5:=acp h8;have Xy:=acp h7;have HM:=acp hM;have HV:=acp hv;have jv:=acp dK;have N:=acp hK;have HH:acr (∀w',Below w.heap.size w w'->w'.cell? ⟨s,0,none⟩=some (.slice a S.l.length c)/\w'.cell? ⟨s,1,none⟩=some (.int .i64 S.next)/\w'.cell? ⟨s,2,none⟩=some (.slice la S.last.length lc)):=λ w' A=>by
  have:=(A.block s h3).trans h1;refine⟨?_,?_,?_⟩<;>simp[World.cell?,this]
 have mQ:=DU S.next hv.next.1 hv.next.2;obtain⟨n,hn⟩:∃n,n=S.l.length:=⟨_,rfl⟩;have HN:=acp hn;rw[<-hn]at HH jc tH;have mR:=hv.last;have jo:=hv.next;obtain⟨c0,c1,c2⟩:=HH.o w acu;clear hS hM hv dK hK h1 h2 h4 h5 h6 h7 h8 V hn;go_enter Tryz.func101,Tryz.ntmps101;go_wp2_with fail;refine(fG _).mono ?_;rintro e w1 ⟨rfl,iO,aN⟩;have aH:=acp iO;have jl:=acp aN;obtain⟨d0,d1,d2⟩:=HH.o w1 aN;clear iO aN c0 c1 c2;go_wp2_with fail;refine(jB aH.o S.next jo.1 (by omega) (by simp)).mono ?_;intro e w2 iT;obtain⟨rfl,x2,cB,aJ⟩:=dx.more aH.o jl.o iT;have I:=acp cB;have iD:=acp aJ;obtain⟨e0,e1,e2⟩:=HH.o w2 aJ;clear iT cB aJ d0 d1 d2 aH;go_wp2_with fail;have bT:=l5.o.below iD.o acs;refine(pJ I.o la S.last.length lc S.last bT (λ b A=>⟨by have:=I.o.low;omega,λ Q=>by have:=aZ I.o.own b Q;omega⟩) Xy.o (by simp[ay]) (by omega)).mono ?_;intro e w3 dG;obtain⟨rfl,x3,ig,ak⟩:=dx.more I.o iD.o dG;have aA:=acp ig;have kg:=acp ak;obtain⟨f0,f1,f2⟩:=HH.o w3 ak;clear dG ig ak e0 e1 e2 I bT;go_wp2_with fail;refine(qo aA.o (n:Int) (by omega) (by omega) (by simp[ay];omega)).mono ?_;intro e w4 bq;obtain⟨rfl,x4,OP,bf⟩:=dx.more aA.o kg.o bq;have zQ:=acp OP;have dI:=acp bf;obtain⟨k0,k1,k2⟩:=HH.o w4 bf;clear bq OP bf f0 f1 f2 aA;obtain⟨z,B⟩:∃z,z=[]++bF S.next 8++(bF (S.last.length:Int) 2++S.last)++bF (n:Int) 1:=⟨_,rfl⟩;have l8:z.length<=1000:=by rw[B];simp[ay];omega
 rw[<-B]at zQ;have gL:=acp B;clear B;go_wp2_with fail
 go_loopw [5,6,33] (λ _ _ iv wr=>∃k:Nat,iv= .int .i64 k/\k<=n/\dx w w.heap.size (z++(S.l.take k).flatMap Ai) wr) (λ _ _ iv _=>n-(intOf iv).toNat)
 case atStart=>exact⟨0,rfl,Nat.zero_le _,x4,by simpa using zQ.o,dI.o⟩
 case round=>
  obtain⟨k,rfl,hk,y,hy,fT⟩:=hrel;have HY:=acp hy;have u:=acp fT;have lX:=jv.o k;clear hy fT;by_cases jw:k<n
  ·have hd:decide ((k:Int)<(n:Int))=true:=by simpa using jw
   obtain⟨x,hx⟩:∃x,S.l[k]? =some x:=⟨S.l[k]'(by have:=HN.o;omega),List.getElem?_eq_getElem _⟩;have aL:=dV.o;rw[<-HN.o]at aL;obtain⟨g,C,rfl,av,_,m⟩:=aL.at_ (by omega);obtain⟨ha,D,q,r0,r1,r2,r3,r4,r5,r6⟩:=ZV.o.at_ hx;have q0:wr.cell? ⟨g,C+k*3,none⟩=some (.int .i64 x.id):=(u.o.cell (p:=⟨g,C+k*3,none⟩) av.2).trans ((m (k*3) (by omega)).trans r0);have q1:wr.cell? ⟨g,C+k*3+1,none⟩=some (.slice ha x.hash.length D):=(u.o.cell (p:=⟨g,C+k*3+1,none⟩) av.2).trans ((m (k*3+1) (by omega)).trans r1);have q2:wr.cell? ⟨g,C+k*3+2,none⟩=some (ptr q):=(u.o.cell (p:=⟨g,C+k*3+2,none⟩) av.2).trans ((m (k*3+2) (by omega)).trans r2);have aB:=HV.o.each x (aaD hx);have mq:=DU x.id aB.1.1 aB.1.2;have l9:=SV (N.o _ r6).1 (N.o _ r6).2;have mU:=DU ((iA x.t).length:Int) (by omega) (by omega);have HX:=acp hx;have ko:=acp r4;have oD:=acp r5;have yL:=acp r6;have i0:(0:Int)<=(k:Int):=by omega
   have i1:(k:Int)<(n:Int):=by omega
   have H:=u.o.size;clear hx r0 r1 r2 r4 r5 r6 m aL;go_wp2_with fail;have F:=wall wr (.cells #[.int .i64 x.id,.slice ha x.hash.length D,ptr q] 201);have iE:=(MapKept.heap_alloc wr (.cells #[.int .i64 x.id,.slice ha x.hash.length D,ptr q] 201)).1;refine(Xd (oD.o.grow (u.o.trans (Below.mono F H))) (N.o _ yL.o).1 (N.o _ yL.o).2).mono ?_;rintro e P ⟨ba,bn,bc,rfl,mo,aD,E⟩;have iM:bn=(iA x.t).length:=by have:=aD.length;simpa using this.symm
   subst iM;have dN:=iK HY.o.own;have mY:=HY.o.lt;have G:=(E.block wr.heap.size (by simp)).trans iE;have aF:Below wr.heap.size wr P:=F.trans (E.mono F.size);have AQ:=acp (aD.mono (S':=λ b=>wr.heap.size<=b/\b<P.heap.size) λ b A=>⟨Nat.le_trans F.size A.1,A.2⟩);have lI:acr (Aside w.heap.size y wr.heap.size P.heap.size):=λ b h1 h2=>⟨by omega,λ Q=>by have:=dN b Q;omega⟩;have Bq:=acp (HY.o.below aF);have nP:=acp (u.o.trans (aF.mono H));have kN:=acp G;have lC:wr.heap.size<P.heap.size:=(qW.1 G).1;have v0:P.cell? ⟨wr.heap.size,0,none⟩=some (.int .i64 x.id):=by simp[World.cell?,G]
   have v1:P.cell? ⟨wr.heap.size,1,none⟩=some (.slice ha x.hash.length D):=by simp[World.cell?,G]
   have jG:(z++(S.l.take k).flatMap Ai).length<=85001000:=by rw[List.length_append];omega
   obtain⟨b0,M⟩:∃b0,b0=z++(S.l.take k).flatMap Ai:=⟨_,rfl⟩;rw[<-M]at jG;have J:acr (bV w.heap.size P w.heap.size y b0):=by rw[M];exact Bq
   have jL:=acp M;clear F iE aD E dN G aF q0 q1 q2 HY Bq M;go_wp2_with fail;refine(jB J.o x.id aB.1.1 (by omega) (by omega)).mono ?_;rintro e u3 ⟨rfl,y3,Jl⟩;obtain⟨Y,aC⟩:=lI.o.more Jl acs;have bD:=(aC wr.heap.size acs lC).trans kN.o;have CG:=acp Jl.1;have nE:=acp (nP.o.trans (Jl.low J.o));have bS:=acp Y;have d9:=Jl.2.1.size;have X:=acp (AQ.o.kept d9 (λ b A _=>aC b A.1 A.2));have lN:u3.cell? ⟨wr.heap.size,1,none⟩=some (.slice ha x.hash.length D):=by simp[World.cell?,bD]
   clear Jl Y aC bD v0 v1 J AQ;go_wp2_with fail;have fK:=ko.o.below nE.o acs;refine(pJ CG.o ha x.hash.length D x.hash fK (λ b A=>⟨by omega,λ Q=>by have:=aZ CG.o.own b Q;omega⟩) (by omega) (by simp[ay];omega) (by omega)).mono ?_;rintro e u4 ⟨rfl,y4,Od⟩;obtain⟨R,dM⟩:=bS.o.more Od d9;have jm:=Od.2.1.size;have Gv:=acp Od.1;have qY:=acp (nE.o.trans (Od.low CG.o));have gy:=acp R;have Z:=acp (X.o.kept jm (λ b A _=>dM b A.1 A.2));clear Od R dM lN fK CG X;go_wp2_with fail;refine(jB Gv.o ((iA x.t).length:Int) (by omega) (by omega) (by simp[ay];omega)).mono ?_;rintro e u5 ⟨rfl,y5,Oe⟩;obtain⟨dn,iN⟩:=gy.o.more Oe (by omega);have jy:=Oe.2.1.size;have O9:=acp Oe.1;have pK:=acp (qY.o.trans (Oe.low Gv.o));have U:=acp (Z.o.kept jy (λ b A _=>iN b A.1 A.2));clear Oe dn iN Gv Z;go_wp2_with fail;refine(gZ O9.o ba (iA x.t).length bc (iA x.t) U.o (by simp[ay];omega) (by omega)).mono ?_;rintro e u6 ⟨rfl,y6,Gu⟩;have ZW:=acp Gu.1;have sU:=acp (pK.o.trans (Gu.low O9.o));clear Gu O9 U;go_wp2_with fail;go_roundw
   case rel=>
    refine⟨k+1,by go_num,by omega,y6,?_,sU.o⟩;have Q:=ZW.o;rw[jL.o]at Q;rw[TF HX.o,Ai,qO];simpa only[List.append_assoc]using Q
   case measure=>simp[intOf];omega
  ·have hd:decide ((k:Int)<(n:Int))=false:=by simp;omega
   obtain rfl:k=n:=by omega
   have kW:S.l.take k=S.l:=List.take_of_length_le (by have:=HN.o;omega);rw[kW]at HY lX;go_wp2_with fail;have e:z++S.l.flatMap Ai=j_ S:=by
    rw[gL.o,HN.o];unfold j_ qO;simp
   have gM:0<(j_ S).length:=by unfold j_;rw[List.length_append,List.length_append,List.length_append,ay];omega
   have NW:=acp (V_ HY.o (by rw[List.length_append];omega) (by rw[e];exact gM));rw[e]at NW;clear e gM;refine NW.o.mono ?_;rintro e P ⟨ba,bc,rfl,O,E⟩;have l6:=acp O;have nP:=acp E;clear O E;go_wp2_with fail;go_ret;have H:=u.o.size;exact⟨ba,bc,rfl,SC l6.o H,u.o.trans (nP.o.mono H)⟩
theorem TG(y:jD o i w s S)(D:Marks W o w)(u:O8 S):Dy 101 #[ptr s] w (gH w (j_ S)):=by
 obtain⟨v,I,M,A,J,G,O,F,N,B,E,H⟩:=y.at_;have C:=GI B (λ x m=>(u.each x m).2) u.few;exact(ssave_w (K:=fA) (λ T z=>⟨z.w,λ k x m=>by have:=z.few m;omega⟩) y D u.w λ k=>by have:=C k;omega).mono λ e w' h=>h.ret
end
