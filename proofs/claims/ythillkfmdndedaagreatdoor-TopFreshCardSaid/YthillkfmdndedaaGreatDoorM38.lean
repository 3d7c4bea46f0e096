/- disk -/
import Derived.Test.YthillkfmdndedaaGreatDoorM37
import Derived.Test.YthillkfmdndedaaGreatDoorM31
set_option maxRecDepth 100000
set_option maxHeartbeats 64000000
set_option linter.all false
namespace Go.Proofs.YthillkfmdndedaaGreatDoor
open Go.ChangeShapes Go.WideShapes Go.ChangeAt Go.RowKit
theorem wS{α:Type}:∀(l:List (Int×α)) (a:Int) (n:Nat),bA (λ a b:Int=>decide (a<b)) l->(∀p∈l,a<=p.1/\p.1<a+n)->l.length<=n
 |[],_,_,_,_=>by simp
 |x::r,a,n,z,u=>by
  obtain⟨C,A⟩:=aaE.1 z;have D:=u x (by simp);obtain⟨m,rfl⟩:∃m,n=m+1:=⟨n-1,by omega⟩;have:=wS r (a+1) m A (λ p y=>by
   have B:=C p y;simp only[aap]at B;have E:=u p (by simp[y]);omega)
  simp;omega
theorem dB.keys_in{F:Nat->Prop}{d m u:Nat}{l:List (Int×Value)}{M:fF}{w:World}(h:dB F w d m u l M):∀p∈l,0<=p.1/\p.1<0+(4096:Nat):=by
 intro p z;have A:=h.map.sorted.1.get VQ (k:=p.1) (v:=p.2) z;obtain⟨B,y,_⟩:=yC (h.rows p.1) A;have C:=h.range _ (fH y);have D:=h.len;simp only at C;omega
theorem dB.small{F:Nat->Prop}{d m u:Nat}{l:List (Int×Value)}{M:fF}{w:World}(h:dB F w d m u l M):l.length<=4096:=
 wS l 0 4096 h.map.sorted.1 h.keys_in
theorem MI{F:Nat->Prop}{d sb G:Nat}{l:List (Int×Value)}{M:fF}(i:Nat)(hi:pG M i)(b I P:Nat)(Y:I8)(hw:M.writes<4611686018427387904)(hl:Y.length=128)(w:World)(hc:∀j u,(Y.map bv)[j]? =some u->w.cell? ((⟨b,I,none⟩:Addr).add j)=some u)(E:b<w.heap.size)(h:dB F w d sb G l M):
  Dy 92 #[.pointer (some ⟨d,0,none⟩),.int .i64 i,.slice (some ⟨b,I,none⟩) 128 P] w λ e w'=>e= .returned (.int .i64 0)/\∃F' l',dB F' w' d sb G l' ⟨M.safe,dO (λ a b:Int=>decide (a<b)) i Y M.dirty,M.writes+1⟩/\(∀x,F' x->F x\/w.heap.size<=x)/\Keeps F w w':=by
 have hd:=DY (i:Int) w h;have e1:decide (0<=(i:Int)/\(i:Int)<((M.safe.length/128:Nat):Int))=true:=aak hi;rw[e1]at hd;clear e1;obtain⟨bn,K,aD⟩:=nV h;have av:=h.low _ h.own.1;have z:=acp h;clear h;go_enter Tryz.func92,Tryz.ntmps92;go_wp2_with (go_at_call 160;refine hd.mono ?_;rintro e w' ⟨rfl,rfl⟩);have A:=z.o.low;obtain⟨W,R,X⟩:=z.o.apart;have S:=A _ z.o.own.2.2;have O:=z.o.head;have Q:∀v C,Below w.drew.heap.size w.drew C->∃B,(Instr.mapUpdate 92 (.map (some G)) (.int .i64 (i:Int)) v).run Tryz.prog C= .ok () B/\MapAt aY B G (dO aY.lt (i:Int) v l)/\C.mapTurned B G:=by
  intro v C m;have aB:MapAt aY C G l:=z.o.map.kept (m.block G S);have aH:=z.o.small;have aN:=hi.2;have aJ:=z.o.len;exact aB.rU aY Tryz.underlying92 (by unfold maxLen;omega) (i:Int) v (by simp[aY,Lit.wf,IntKind.min,IntKind.max,IntKind.signed,IntKind.bits];omega)
 have H:∀C B:World,Below w.drew.heap.size w.drew C->C.mapTurned B G->B.heap[d]? =w.heap[d]? :=by
  intro C B Z h2;have h3:=Z.size;have h4:w.drew.heap.size=w.heap.size:=rfl;exact(h2.grown.block d (by omega) (by simp;omega)).trans (Z.block d (by omega))
 go_region_held3 (λ w'=>w'.cell? ⟨d,1,none⟩=some (.map (some G))) (first|exact K|(rw[m.cell (p:=⟨d,1,none⟩) av];exact K)|(exact(World.cell?_of_block (w:=w) (w':=B) (a:=⟨d,1,none⟩) (H C B m U)).trans K)) ((first|(go_at_call 44;refine(tu b I 128 P Y w.drew (by omega) hl (by omega) hc E).mono ?_;rintro e C ⟨v,rfl,hv,m⟩)|(obtain⟨B,Wm,aA,U⟩:=Q v C m;rw[Wm];go_simp)))
 have J:=H C B m U;rw[O]at J;have aF:=(World.cell?_of_block (w:=w) (w':=B) (a:=⟨d,2,none⟩) (H C B m U)).trans aD;have aL:B.frozen? ⟨d,2,none⟩=false:=by simp[World.frozen?,J]
 have e2:IntKind.i64.wrap (M.writes+1)=M.writes+1:=aaf _ (by have:=z.o.writes;omega);clear Q H Wm;go_wp2;go_ret;have aC:=m.size;have ak:w.drew.heap.size=w.heap.size:=rfl;rw[ak]at m hv aC;have bf:B.heap.size=C.heap.size:=iw U;have D:=Keeps.turned U;have hh:∀b,F b->b≠G->B.heap[b]? =w.heap[b]? :=λ b E hm=>(D.block b (by have:=A b E;omega) hm).trans (m.block b (A b E));have z:=z.o;refine⟨rfl,λ x=>F x\/(w.heap.size<=x/\x<B.heap.size),dO aY.lt (↑i) v l,?_,λ x N=>N.imp id (·.1),?_⟩
 ·constructor
  ·exact aG J
  ·rw[aI _ _ _ _ (aa6 W),hh _ z.own.2.1 X];exact z.safe
  ·exact z.len
  ·exact aA.kept (aI _ _ _ _ (aa6 R))
  ·exact z.sorted.dO VQ _ _
  ·intro k;by_cases hk:k=(i:Int)
   ·subst hk;rw[qg,qg];refine hv.move λ b E V=>⟨⟨.inr ⟨E.1,by omega⟩,by omega,?_,by omega⟩,?_⟩
    ·have:=A _ z.own.2.1;omega
    ·rw[aI _ _ _ _ (show b≠d by omega),D.block b V (by omega)]
   ·rw[oN _ hk,oN _ hk];refine(z.rows k).imp λ x y h=>h.move λ b E V=>⟨⟨.inl E.1,E.2⟩,?_⟩;rw[aI _ _ _ _ (show b≠d from E.2.1),hh b E.1 E.2.2.2]
  ·intro q hq;rcases (qc _).1 hq with rfl|hq
   ·have:=hi.2;have:=z.len;simp only;omega
   ·exact z.range q (aaG.1 hq).1
  ·exact⟨.inl z.own.1,.inl z.own.2.1,.inl z.own.2.2⟩
  ·exact z.apart
  ·rw[size_set];rintro x (N|N)
   ·have:=A x N;omega
   ·exact N.2
  ·have:=z.writes;simp only;omega
 ·refine⟨D.os.trans m.os,D.tape.trans m.tape,D.output.trans m.output,by rw[size_set];omega,λ x N hn=> ?_⟩;have Z:x≠d:=λ e=>hn (e▸z.own.1);have h2:x≠G:=λ e=>hn (e▸z.own.2.2);rw[aI _ _ _ _ Z,D.block x (by omega) h2];exact m.block x N
def mix(n:Nat)(f:Nat->I8):List UInt8:=((List.range n).map f).flatten
theorem rC{f:Nat->I8}:∀(l:List Nat),(∀i∈l,(f i).length=128)->(l.map f).flatten.length=l.length*128
 |[],_=>rfl
 |x::r,h=>by
  have:=rC r (λ i m=>h i (by simp[m]));have u:=h x (by simp);simp only[aau,List.flatten_cons,List.length_append,List.length_cons];omega
theorem xM{n:Nat}{f:Nat->I8}(h:∀i,i<n->(f i).length=128):(mix n f).length=n*128:=by
 have:=rC (f:=f) (List.range n) (λ i m=>h i (by simpa using m));simpa[mix]using this
theorem range_split{n i:Nat}(h:i<n):List.range n=List.range i++i::List.range' (i+1) (n-i-1):=by
 rw[List.range_eq_range',List.range_eq_range'];rw[show n=i+(1+(n-i-1))by omega,<-List.range'_append_1,<-List.range'_append_1];simp
theorem Cc{n i:Nat}(f:Nat->I8)(h:i<n):mix n f=((List.range i).map f).flatten++(f i++((List.range' (i+1) (n-i-1)).map f).flatten):=by
 unfold mix;rw[range_split h];simp
theorem Qb{n i:Nat}{f:Nat->I8}(h:i<n)(m:∀i,i<n->(f i).length=128):rowsOf (mix n f) i=f i:=by
 have u:=rC (f:=f) (List.range i) (λ j y=>m j (by have:=aa9.1 y;omega));rw[List.length_range]at u;unfold rowsOf;rw[Cc f h,<-u,List.drop_left,abl (by rw[m i h];omega),List.take_of_length_le (by rw[m i h];omega)]
theorem lD{n:Nat}{f g:Nat->I8}(h:∀i,i<n->f i=g i):mix n f=mix n g:=by
 unfold mix;rw[aaF (λ i m=>h i (by simpa using m))]
theorem qE:∀{n:Nat} {s:I8},s.length=n*128->mix n (rowsOf s)=s
 |0,s,h=>by
  have:s=[]:=aac (by omega);subst this;rfl
 |n+1,s,h=>by
  have u:mix (n+1) (rowsOf s)=mix n (rowsOf (s.take (n*128)))++rowsOf s n:=by
   unfold mix;rw[ach,aas,abE];simp only[aau,abn,List.flatten_cons,List.flatten_nil,aaz];rw[aaF];intro i m;have:=aa9.1 m;unfold rowsOf;rw[List.drop_take,List.take_take,Nat.min_eq_left (by omega)]
  rw[u,qE (by simp;omega)];unfold rowsOf;rw[List.take_of_length_le (l:=s.drop (n*128)) (by simp;omega),aaT]
theorem kR{s:I8}{i n:Nat}(h:s.length=n*128)(m:i<n):(rowsOf s i).length=128:=by
 unfold rowsOf;simp;omega
theorem zk{n i:Nat}{f:Nat->I8}{r:I8}(h:i<n)(u:∀i,i<n->(f i).length=128)(B:r.length<=128):
  splice (mix n f) (i*128) r=mix n (λ j=>if j=i then r++(f i).drop r.length else f j):=by
 have y:=rC (f:=f) (List.range i) (λ j m=>u j (by have:=aa9.1 m;omega));rw[List.length_range]at y;rw[Cc f h,Cc _ h];have z:(List.range i).map (λ j=>if j=i then r++(f i).drop r.length else f j)=(List.range i).map f:=by
  refine aaF λ j m=> ?_;have:=aa9.1 m;rw[if_neg (by omega)]
 have A:(List.range' (i+1) (n-i-1)).map (λ j=>if j=i then r++(f i).drop r.length else f j)=(List.range' (i+1) (n-i-1)).map f:=by
  refine aaF λ j m=> ?_;have:=List.mem_range'_1.1 m;rw[if_neg (by omega)]
 rw[z,A,if_pos rfl];unfold splice;rw[<-y,List.take_left,Nat.add_comm,<-aaV,aaV,Nat.add_comm,<-aaV,List.drop_left,abN (by rw[u i h];omega)];simp
theorem dat_c{d m N:Nat}(i:Nat)(z:i*128+128<=N)(B:N<=524288)(w:World)(u:w.cell? ⟨d,0,none⟩=some (.slice (some ⟨m,0,none⟩) N N)):
  Dy 102 #[.pointer (some ⟨d,0,none⟩),.int .i64 i] w λ e w'=>e= .returned (.slice (some ⟨m,i*128,none⟩) 128 (N-i*128))/\w=w':=by
 have y:IntKind.i64.wrap ((i:Int)*128)=(i:Int)*128:=aaf _ (by omega);have C:IntKind.i64.wrap ((i:Int)+1)=(i:Int)+1:=aaf _ (by omega);have A:IntKind.i64.wrap (((i:Int)+1)*128)=((i:Int)+1)*128:=aaf _ (by omega);go_enter Tryz.func102,Tryz.ntmps102;go_wp2;go_ret;refine⟨?_,rfl⟩;show Ending.returned (Value.slice (some ⟨m,i*128,none⟩) ((i+1)*128-i*128) (N-i*128))=_;rw[show(i+1)*128-i*128=128 by omega]
def JY(M:fF):fF:=⟨mix (M.safe.length/128) (λ i=>eZ M i),[],M.writes⟩
def UK(F:Nat->Prop)(w:World)(d m u:Nat)(M:fF)(e:Ending)(w':World):Prop:=
 e= .returned (.tuple #[])/\dB F w' d m u [] M/\Keeps F w w'
def Yz(w:World)(u y r:Nat)(l:List (Int×Value))(M:fF)(wr:World):Prop:=
 ∃(left:Int->Bool) (m:Nat),dR aY wr y r l left m/\Keeps (λ x=>x=u) w wr/\
  wr.heap[u]? =some (.cells ((mix (M.safe.length/128) (λ i=>if left i then rowsOf M.safe i else eZ M i)).map bv).toArray 5 (0,0))
theorem dB.cleared{F:Nat->Prop}{d m u:Nat}{l:List (Int×Value)}{M:fF}{w w':World}{S':I8}(h:dB F w d m u l M)(D:w.heap.size<=w'.heap.size)
  (z:w'.heap[d]? =w.heap[d]?)(B:w'.heap[m]? =some (.cells (S'.map bv).toArray 5 (0,0)))(y:S'.length=M.safe.length)(C:MapAt aY w' u []):dB F w' d m u [] ⟨S',[],M.writes⟩:=by
 constructor
 ·rw[z,h.head];simp only[y]
 ·exact B
 ·simp only[y];exact h.len
 ·exact C
 ·simp[bA]
 ·intro k;simp[au,AY]
 ·simp
 ·exact h.own
 ·exact h.apart
 ·intro x A;have:=h.low x A;omega
 ·exact h.writes
theorem jP{F:Nat->Prop}{d m y:Nat}{l:List (Int×Value)}{M:fF}{w:World}(h:dB F w d m y l M){i:Nat}(z:i<M.safe.length/128):(eZ M i).length=128:=by
 unfold eZ;cases A:au (i:Int) M.dirty with
 |none=>have:=h.len;exact kR (n:=M.safe.length/128) (by omega) z
 |some r=>
  obtain⟨v,_,u⟩:=G7 (h.rows i) A;exact u.1
theorem FB{F:Nat->Prop}{d S O:Nat}{l:List (Int×Value)}{M:fF}(w:World)(h:dB F w d S O l M):
  Dy 39 #[.pointer (some ⟨d,0,none⟩)] w (UK F w d S O (JY M)):=by
 obtain⟨iM,gy,iE⟩:=nV h;have aD:=h.map;have R:=acp h;clear h;go_enter Tryz.func39,Tryz.ntmps39;go_wp2_with (at_range;refine jI aY rfl _ 92 30 rfl Tryz.underlying92 rfl aD ?_;intro w0 aJ aB dV)
 go_frame
 go_loopw [2,3] (λ _ _ wr=>Yz w S O w.heap.size l M wr) (λ _ _ wr=>wr.rangeLeft O w.heap.size)
 case atStart=>
  have h:=R.o;have hl:=h.len;refine⟨_,_,aJ,(Keeps.below aB).mono (λ x hx hf=>by omega),?_⟩;rw[aB.block _ (h.low _ h.own.2.1),h.safe,lD (g:=rowsOf M.safe),qE (by omega)];intro i Z;by_cases W:(au (i:Int) l).isSome=true
  ·rw[if_pos W]
  ·rw[if_neg W];have h1:au (i:Int) l=none:=by simpa using W
   have h2:=h.rows (i:Int);rw[h1]at h2;cases h3:au (i:Int) M.dirty with
   |none=>simp[eZ,h3]
   |some y=>rw[h3]at h2;exact h2.elim
 case round=>
  obtain⟨left,d9,hR,G,Y⟩:=hrel;have I:=R.o.apart;have z:=R.o.low;have m:=R.o.own;have D:wr.heap[d]? =w.heap[d]? :=G.block d (z _ m.1) I.1;rw[R.o.head]at D;have HS:=acp Y;clear Y;go_wp2_with (first|(at_next;refine kE aY rfl _ rfl rfl hR ?_ ?_))
  ·intro K;have gL:wr.cell? ⟨d,1,none⟩=some (.map (some O)):=by simp[World.cell?,D]
   have HD:=acp K;clear K;have aF:=acp D;clear D;go_wp2_with (with_reducible refine Jh aY rfl _ 92 30 rfl Tryz.underlying92 rfl hR.map ?_;intro w2 aH H9)
   go_end0
   have h:=R.o;have E:=Keeps.turned H9;have bn:=iw H9;have bS:=G.size;refine⟨rfl,?_,?_⟩
   ·refine h.cleared (by omega) ?_ ?_ ?_ aH
    ·rw[E.block d (by have:=z _ m.1;omega) I.2.1,aF.o,h.head]
    ·rw[E.block S (by have:=z _ m.2.1;omega) I.2.2,HS.o,lD (g:=λ i=>eZ M i) (λ i _=>by simp[HD.o])]
    ·rw[xM (λ i Z=>jP h Z)];have:=h.len;omega
   ·refine⟨E.os.trans G.os,E.tape.trans G.tape,E.output.trans G.output,by omega,λ x hx hn=> ?_⟩;rw[E.block x (by omega) (λ e=>hn (e▸m.2.2))];exact G.block x hx (λ e=>hn (e▸m.2.1))
  ·intro k v w1 P fK H W X bf B bS ig;have h:=R.o;obtain⟨N,h1,hl,b,aL,fT,rfl,hF,Q,V,dM,dI,bT⟩:=yC (h.rows k) W;have aN:=h.range _ (fH h1);have dN:=h.len;simp only at aN;obtain⟨i,rfl⟩:∃i:Nat,k=i:=⟨k.toNat,by omega⟩;have gM:=G.size;have cB:=z _ hF.1;have hd0:=z _ m.1;have dK:=z _ m.2.1;have J:w1.heap[d]? =some _:=(B.block d (by omega) (by omega)).trans D;have C:w1.cell? ⟨d,0,none⟩=some (.slice (some ⟨S,0,none⟩) M.safe.length M.safe.length):=by simp[World.cell?,J]
   have MJ:=(B.block S (by omega) (by omega)).trans HS.o;have FC:=((B.block b (by omega) (by omega)).trans (G.block b cB hF.2.2.1)).trans Q;have U:∀i,i<M.safe.length/128->((λ i:Nat=>if left i then rowsOf M.safe i else eZ M i) i).length=128:=by
    intro i Z;simp only;split
    ·exact kR (n:=M.safe.length/128) (by omega) Z
    ·exact jP h Z
   have bD:=xM U;have dn:=dat_c i (by omega) (by omega) w1 C;have aC:∀j u,(N.map bv)[j]? =some u->w1.cell? ((⟨b,0,none⟩:Addr).add j)=some u:=by
    intro j u hu;rw[add_plain,<-V]at*;simp only[World.cell?,FC,Nat.zero_add];rw[aaB]at hu;split at hu
    ·simpa using hu
    ·simp at hu
   have aA:N.length=Nat.min 128 128:=by rw[hl];rfl
   have av:i*128+N.length<=((mix (M.safe.length/128) (λ i=>if left i then rowsOf M.safe i else eZ M i)).map bv).length:=by rw[List.length_map,bD];omega
   have u_:=acp aA;have NH:=acp av;clear aA av;have HX:=acp MJ;have HH:=acp J;have HT:=acp V;have HC:=acp FC;have HG:=acp W;have H1:=acp h1;have HL:=acp hl;have iD:=acp H;clear MJ J V FC W h1 hl Q D H bT h C;go_wp2_with (first|(go_at_call 102;refine dn.mono ?_;rintro e w' ⟨rfl,rfl⟩)|(with_reducible refine xY rfl _ _ 30 30 rfl 5 Tryz.underlying30 Tryz.size8 (some ⟨b,0,none⟩) S (i*128) 128 (M.safe.length-i*128) 128 aL rfl rfl _ 5 HX.o N u_.o (λ _=>⟨_,rfl,aC⟩) NH.o ?_;intro w2 dG A bn;go_frame));go_roundw
   case rel=>
    refine⟨_,P,X.kept (A.block O X.lt.1 (aa6 I.2.2)) (A.block w.heap.size X.lt.2.1 (by omega)),?_,?_⟩
    ·exact⟨A.os.trans (B.os.trans G.os),A.tape.trans (B.tape.trans G.tape),A.output.trans (B.output.trans G.output),by omega,λ x hx hn=>
      (A.block x (by omega) hn).trans ((B.block x (by omega) (by omega)).trans (G.block x hx hn))⟩
    ·rw[dG.o,D8,zk (by omega) U (by rw[HL.o];omega),lD];intro j hj;by_cases ak:j=i
     ·subst ak;simp only[if_pos,decide_true,Bool.not_true,Bool.and_false];rw[aay (by rw[HL.o];exact abY (U j hj))];simp[eZ,H1.o]
     ·simp only[if_neg ak];have:decide ((j:Int)=(i:Int))=false:=by simp;omega
      rw[this];simp
   case measure=>
    have bq:dR aY w2 O w.heap.size l _ P:=X.kept (A.block O X.lt.1 (aa6 I.2.2)) (A.block w.heap.size X.lt.2.1 (by omega));rw[bq.measure,hR.measure];exact bf
theorem dB.below{F:Nat->Prop}{d A C B:Nat}{l:List (Int×Value)}{M:fF}{w w':World}(h:dB F w d A C l M)(D:Below B w w')(G:w.heap.size<=B):dB F w' d A C l M:=by
 have u:∀x,F x->w'.heap[x]? =w.heap[x]? :=λ x z=>D.block x (by have:=h.low x z;omega);exact⟨(u _ h.own.1).trans h.head,(u _ h.own.2.1).trans h.safe,h.len,h.map.kept (u _ h.own.2.2),h.sorted,λ k=>(h.rows k).imp λ x y E=>E.move λ b m _=>⟨m,u _ m.1⟩,h.range,h.own,h.apart,λ x z=>by have:=h.low x z;have:=D.size;omega,h.writes⟩
theorem YA(x:Int):aY.val x= .int .i64 x:=rfl
def vI(M:fF):List UInt8:=mix (M.safe.length/128) (λ i=>eZ M i)
def NewRow(w:World)(m:I8)(e:Ending)(w':World):Prop:=
 ∃v,e= .returned v/\Je (λ x=>w.heap.size<=x/\x<w'.heap.size) w' m.length v m/\Below w.heap.size w w'
def ImgRel(w:World)(g u y r:Nat)(l:List (Int×Value))(M:fF)(wr:World):Prop:=
 ∃(left:Int->Bool) (m:Nat) (X:List Value),dR aY wr y r l left m/\Below w.heap.size w wr/\X.length+M.safe.length=u/\
  wr.heap[g]? =some (.cells ((mix (M.safe.length/128) (λ i=>if left i then rowsOf M.safe i else eZ M i)).map bv++X).toArray 5 (0,0))
theorem Qc{F:Nat->Prop}{d sb K:Nat}{l:List (Int×Value)}{M:fF}(w:World)(h:dB F w d sb K l M):
  Dy 13 #[.pointer (some ⟨d,0,none⟩)] w (NewRow w (vI M)):=by
 obtain⟨fT,aB,dK⟩:=nV h;have iN:=h.len;have hd0:=h.low _ h.own.1;have aC:=h.low _ h.own.2.1;have bn:=h.low _ h.own.2.2;have R:=acp h.safe;have bf:=h.map;have V:=acp h;clear h;have d9:=tu sb 0 M.safe.length M.safe.length M.safe w (by omega) rfl (by omega) (by intro j u Y;rw[add_plain];simp only[World.cell?,R.o,Nat.zero_add];simpa using Y) aC;go_enter Tryz.func13,Tryz.ntmps13;go_wp2_with fail;refine d9.mono ?_;rintro e W ⟨v,rfl,hv,E⟩;obtain⟨_,g,D,dn,rfl,hg,z,C,dM,S,J⟩:=hv;have KZ:=bf.kept (E.block K bn);obtain⟨Q,dV⟩:=bcell E;have ig:W.cell? ⟨d,1,none⟩=some (.map (some K)):=by rw[Q _ _ hd0];exact aB
 have JK:=acp Q;have bT:=acp C;have aD:=acp z;have fK:=acp J;clear Q dV C z fT aB dK J;go_wp2_with (at_range;refine jI aY rfl _ 92 30 rfl Tryz.underlying92 rfl KZ ?_;intro w0 bD aL iO)
 go_frame
 go_loopw [4,5] (λ _ _ wr=>ImgRel w g D K W.heap.size l M wr) (λ _ _ wr=>wr.rangeLeft K W.heap.size)
 case atStart=>
  have h:=V.o;refine⟨_,_,dn.toList.drop M.safe.length,bD,E.trans (aL.mono E.size),by simp;rw[fK.o];omega,?_⟩;rw[aL.block _ hg.2,aD.o,lD (g:=rowsOf M.safe),qE (by omega)]
  ·rw[<-bT.o,aaT]
  intro i hi;by_cases hg:(au (i:Int) l).isSome=true
  ·rw[if_pos hg]
  ·rw[if_neg hg];have h1:au (i:Int) l=none:=by simpa using hg
   have h2:=h.rows (i:Int);rw[h1]at h2;cases h3:au (i:Int) M.dirty with
   |none=>simp[eZ,h3]
   |some y=>rw[h3]at h2;exact h2.elim
 case round=>
  obtain⟨left,jl,X,hR,O,hX,ak⟩:=hrel;have jc:=V.o.apart;have aH:=V.o.low;have gL:=V.o.own;have HS:=acp ak;clear ak;go_wp2_with (first|(at_next;refine kE aY rfl _ rfl rfl hR ?_ ?_))
  ·intro H;have HD:=acp H;clear H;go_wp2;go_ret;have h:=V.o;have I:(vI M).length=M.safe.length:=by
    unfold vI;rw[xM (λ i hi=>jP h hi)];omega
   have av:g<wr.heap.size:=(qW.1 HS.o).1;refine⟨.slice (some ⟨g,0,none⟩) M.safe.length D,rfl,⟨rfl,g,D,_,by rw[I],⟨hg.1,av⟩,HS.o,?_,by omega,S,?_⟩,O⟩
   ·rw[lD (g:=λ i=>eZ M i) (λ i _=>by simp[HD.o])];show List.take _ ((vI M).map bv++X)=_;rw[abl (by simp),List.take_of_length_le (by simp)]
   ·rw[lD (g:=λ i=>eZ M i) (λ i _=>by simp[HD.o])];show((vI M).map bv++X).length=_;simp;omega
  ·intro k v w3 N jm G U Z cB B jy dI;have h:=V.o;obtain⟨A,h1,hl,b,bq,iE,rfl,hF,z,C,iD,gM,J⟩:=yC (h.rows k) U;have bS:=h.range _ (fH h1);simp only at bS;obtain⟨i,rfl⟩:∃i:Nat,k=i:=⟨k.toNat,by omega⟩;have jv:=O.size;have dN:=aH _ hF.1;have av:g<wr.heap.size:=(qW.1 HS.o).1;have iT:=hR.lt;have MJ:=(B.block g (by omega) (by omega)).trans HS.o;have FC:=((B.block b (by omega) (by have:=E.size;omega)).trans (O.block b dN)).trans z;have P:∀i,i<M.safe.length/128->((λ i:Nat=>if left i then rowsOf M.safe i else eZ M i) i).length=128:=by
    intro i hi;simp only;split
    ·exact kR (n:=M.safe.length/128) (by omega) hi
    ·exact jP h hi
   have I:=xM P;have aN:∀j u,(A.map bv)[j]? =some u->w3.cell? ((⟨b,0,none⟩:Addr).add j)=some u:=by
    intro j u Y;rw[add_plain,<-C]at*;simp only[World.cell?,FC,Nat.zero_add];rw[aaB]at Y;split at Y
    ·simpa using Y
    ·simp at Y
   have aJ:A.length=Nat.min 128 (M.safe.length-i*128):=by rw[hl];show 128=min _ _;omega
   have aF:i*128+A.length<=((mix (M.safe.length/128) (λ i=>if left i then rowsOf M.safe i else eZ M i)).map bv++X).length:=by rw[List.length_append,List.length_map,I];omega
   have DL:i*128+A.length<=((mix (M.safe.length/128) (λ i=>if left i then rowsOf M.safe i else eZ M i)).map bv).length:=by rw[List.length_map,I];omega
   have e1:IntKind.i64.wrap ((i:Int)*128)=(i:Int)*128:=aaf _ (by omega);have u_:=acp aJ;have NH:=acp aF;have Uq:=acp DL;clear aJ aF DL;have HX:=acp MJ;have HT:=acp C;have HC:=acp FC;have HG:=acp U;have H1:=acp h1;have HL:=acp hl;have jw:=acp G;have Z7:=acp hX;have iM:i*128<D:=by omega
   clear MJ C FC U h1 hl z G J h hX;simp only[YA]at dI⊢;go_wp2_with (first|(with_reducible refine xY rfl _ _ 30 30 rfl 5 Tryz.underlying30 Tryz.size8 (some ⟨b,0,none⟩) g (i*128) (M.safe.length-i*128) (D-i*128) 128 bq rfl rfl _ 5 HX.o A u_.o (λ _=>⟨_,rfl,aN⟩) NH.o ?_;intro w2 gy m jo;go_frame));go_roundw
   case rel=>
    refine⟨_,N,X,Z.kept (m.block K Z.lt.1 (by omega)) (m.block W.heap.size Z.lt.2.1 (by omega)),?_,Z7.o,?_⟩
    ·exact⟨m.os.trans (B.os.trans O.os),m.tape.trans (B.tape.trans O.tape),m.output.trans (B.output.trans O.output),by omega,λ x hx=>
      (m.block x (by omega) (by omega)).trans ((B.block x (by omega) (by omega)).trans (O.block x hx))⟩
    ·rw[gy.o,Gm _ _ _ _ (by rw[show(A.map bv).length=A.length by simp];exact Uq.o),D8,zk (by omega) P (by rw[HL.o];omega),lD];intro j hj;by_cases aA:j=i
     ·subst aA;simp only[if_pos,decide_true,Bool.not_true,Bool.and_false];rw[aay (by rw[HL.o];exact abY (P j hj))];simp[eZ,H1.o]
     ·simp only[if_neg aA];have:decide ((j:Int)=(i:Int))=false:=by simp;omega
      rw[this];simp
   case measure=>
    have dG:dR aY w2 K W.heap.size l _ N:=Z.kept (m.block K Z.lt.1 (by omega)) (m.block W.heap.size Z.lt.2.1 (by omega));rw[dG.measure,hR.measure];exact cB
instance(M:fF)(i:Int):Decidable (pG M i):=by unfold pG;exact inferInstance
def zl(M:fF)(i:Int)(m:I8):fF:=if pG M i/\m.length=128 then⟨M.safe,dO (λ a b:Int=>decide (a<b)) i m M.dirty,M.writes+1⟩else M
def JZ(M:fF)(i:Int)(m:I8):Int:=if pG M i/\m.length=128 then 0 else 1
def FD(M:fF)(i:Int):List UInt8:=if pG M i then eZ M i else[]
def J2(M:fF)(i:Int):Int:=if pG M i then 0 else 1
def Turned(F:Nat->Prop)(w:World)(d u y:Nat)(M:fF)(v:Value)(e:Ending)(w':World):Prop:=
 e= .returned v/\∃m z,dB m w' d u y z M/\(∀x,m x->F x\/w.heap.size<=x)/\Keeps F w w'
def UL(w:World)(m:I8)(k:Int)(e:Ending)(w':World):Prop:=
 ∃a c,e= .returned (.tuple #[.slice a m.length c,.int .i64 k])/\ah (λ x=>w.heap.size<=x/\x<w'.heap.size) w' a m.length (m.map bv)/\Below w.heap.size w w'/\m.length<=c
theorem Qd{F S:Nat->Prop}{d D E:Nat}{l:List (Int×Value)}{M:fF}(i:Int)(a:Mx)(n y:Nat)(m:I8)(G:M.writes<4611686018427387904)(w:World)(z:ah S w a n (m.map bv))(h:dB F w d D E l M):
  Dy 92 #[.pointer (some ⟨d,0,none⟩),.int .i64 i,.slice a n y] w (Turned F w d D E (zl M i m) (.int .i64 (JZ M i m))):=by
 have J:m.length=n:=by have:=z.length;simpa using this
 by_cases u:pG M i/\m.length=128
 ·have A:zl M i m=⟨M.safe,dO (λ a b:Int=>decide (a<b)) i m M.dirty,M.writes+1⟩:=if_pos u;have B:JZ M i m=0:=if_pos u;rw[A,B];obtain⟨j,rfl⟩:∃j:Nat,i=j:=⟨i.toNat,by have:=u.1.1;omega⟩;have K:n=128:=by omega
  subst K;obtain⟨b,C,rfl,_,I,_⟩:=z.at_ (by omega);exact MI j u.1 b C y m G u.2 w z.cells I h
 ·have A:zl M i m=M:=if_neg u;have B:JZ M i m=1:=if_neg u;rw[A,B];refine(MH i a n y (by rw[<-J];exact u) w h).mono ?_;rintro e w' ⟨rfl,rfl⟩;exact⟨rfl,F,l,h,λ x H=> .inl H,Keeps.refl _ _⟩
theorem UM{F:Nat->Prop}{d C D:Nat}{l:List (Int×Value)}{M:fF}(i:Int)(w:World)(h:dB F w d C D l M):
  Dy 171 #[.pointer (some ⟨d,0,none⟩),.int .i64 i] w (UL w (FD M i) (J2 M i)):=by
 by_cases m:pG M i
 ·have u:FD M i=eZ M i:=if_pos m;have y:J2 M i=0:=if_pos m;rw[u,y];obtain⟨j,rfl⟩:∃j:Nat,i=j:=⟨i.toNat,by have:=m.1;omega⟩;refine(Qa j m w h).mono ?_;rintro e w' ⟨v,rfl,z,E⟩;have A:(eZ M j).length=128:=z.1;obtain⟨b,c,rfl,m,B⟩:=z.row;exact⟨_,c,by rw[A],by rw[A];exact B,E,by omega⟩
 ·have u:FD M i=[]:=if_neg m;have y:J2 M i=1:=if_neg m;rw[u,y];refine(P_ i m w h).mono ?_;rintro e w' ⟨rfl,rfl⟩;exact⟨none,0,rfl,ah.nil _ _ _,Below.refl _ _,Nat.le_refl _⟩
theorem Keeps.low{F:Nat->Prop}{B:Nat}{w w':World}(h:Keeps F w w')(m:B<=w.heap.size)(u:∀x,F x->B<=x):Below B w w':=
 h.bS m λ x z y=>by have:=u x y;omega
theorem zm{M:fF}(h:M.dirty=[])(m:M.safe.length%128=0):vI M=M.safe:=by
 unfold vI;rw[lD (g:=rowsOf M.safe) (λ i _=>by simp[eZ,h,au]),qE (by omega)]
theorem YB{F:Nat->Prop}{d m u:Nat}{l:List (Int×Value)}{M:fF}{w:World}(h:dB F w d m u l M):(vI M).length=M.safe.length:=by
 unfold vI;rw[xM (λ i y=>jP h y)];have:=h.len;omega
theorem dB.keep{F:Nat->Prop}{d z A:Nat}{l:List (Int×Value)}{M:fF}{w w':World}(h:dB F w d z A l M)(D:w.heap.size<=w'.heap.size)(u:∀x,F x->w'.heap[x]? =w.heap[x]?):dB F w' d z A l M:=
 ⟨(u _ h.own.1).trans h.head,(u _ h.own.2.1).trans h.safe,h.len,h.map.kept (u _ h.own.2.2),h.sorted,λ k=>(h.rows k).imp λ x y B=>B.move λ b m _=>⟨m,u _ m.1⟩,h.range,h.own,h.apart,λ x C=>by have:=h.low x C;omega,h.writes⟩
structure dw(o:Mark)(i:Nat)(w:World)(d n:Nat)(b:I8)(cl:Prop)(c:Int):Prop where
 at_:∃F sb mb l M,dB F w d sb mb l M/\(∀x,F x->o x=i)/\M.safe.length=n*128/\vI M=b/\(cl->M.dirty=[])/\M.writes<=c
section
variable{W w w':World}{o o':Mark}{i d n:Nat}{b:I8}{cl:Prop}{c:Int}
theorem dw.step{I:Nat->Prop}(h:dw o i w d n b cl c)(C:¬I i)(u:Step o I w o' w'):dw o' i w' d n b cl c:=by
 obtain⟨F,A,B,l,M,y,z,D⟩:=h.at_;exact⟨F,A,B,l,M,y.keep u.keep.size λ x m=>u.block (y.low x m) (by rw[z x m];exact C),λ x m=>(u.old x (y.low x m)).trans (z x m),D⟩
theorem dw.grow(h:dw o i w d n b cl c)(z:Below w.heap.size w w'):dw o i w' d n b cl c:=by
 obtain⟨F,m,u,l,M,A,y,B⟩:=h.at_;exact⟨F,m,u,l,M,A.below z acs,y,B⟩
theorem dw.len(h:dw o i w d n b cl c):b.length=n*128/\64<=n/\n<=4096:=by
 obtain⟨F,A,C,l,M,m,D,u,y,E,B⟩:=h.at_;have z:=m.len;rw[u]at z;refine⟨?_,by omega,by omega⟩;rw[<-y,YB m,u]
theorem dw.weak(h:dw o i w d n b cl c){c':Int}(E:c<=c'):dw o i w d n b cl c':=by
 obtain⟨F,m,u,l,M,y,z,C,A,B,D⟩:=h.at_;exact⟨F,m,u,l,M,y,z,C,A,B,by omega⟩
theorem dw.lt(h:dw o i w d n b cl c):d<w.heap.size:=by
 obtain⟨F,u,y,l,M,m,z,A⟩:=h.at_;exact m.low d m.own.1
theorem YC(n:Nat):vI ⟨List.replicate (n*128) 0,[],0⟩=List.replicate (n*128) 0:=zm rfl (by simp)
theorem dk_new(H:Marks W o w)(i:Nat)(J:i≠0)(n:Nat)(D:64<=n)(C:n<=4096):Dy 15 #[.int .i64 n] w λ e w'=>∃d o',e= .returned (.tuple #[ptr d,.int .i64 0])/\Step o (λ k=>k=i) w o' w'/\dw o' i w' d n (List.replicate (n*128) 0) True 0/\Below w.heap.size w w':=by
 refine(Yx n D C w).mono ?_;rintro e w' ⟨F,d,z,B,rfl,u,E,y⟩;obtain⟨o',A,G,I⟩:=cK H i F (λ x m=>⟨E x m,u.low x m⟩) y;exact⟨d,o',rfl,A,⟨F,z,B,[],_,u,G,by simp,YC n,λ _=>rfl,Int.le_refl _⟩,y⟩
theorem qF(h:dw o i w d n b cl c):Dy 32 #[ptr d] w λ e w'=>e= .returned (.int .i64 (n:Int))/\w=w':=by
 obtain⟨F,y,A,l,M,m,B,u,C,D,z⟩:=h.at_;refine(Au w m).mono ?_;rintro e w' ⟨rfl,rfl⟩;rw[u,abp _ (by omega)];exact⟨rfl,rfl⟩
theorem J3(h:dw o i w d n b cl c)(k:Nat)(A:k<n):Dy 171 #[ptr d,.int .i64 (k:Int)] w λ e w'=>∃a m,e= .returned (.tuple #[.slice a 128 m,.int .i64 0])/\128<=m/\ah (λ x=>w.heap.size<=x/\x<w'.heap.size) w' a 128 ((rowsOf b k).map bv)/\Below w.heap.size w w':=by
 have K:=h.len;obtain⟨F,N,P,l,M,B,Q,C,G,R,O⟩:=h.at_;have D:pG M k:=⟨by omega,by rw[C,abp _ (by omega)];omega⟩;have I:FD M k=rowsOf b k:=by
  unfold FD;rw[if_pos D,<-G];unfold vI;exact(Qb (n:=M.safe.length/128) (f:=λ i:Nat=>eZ M i) (by rw[C,abp _ (by omega)];exact A) (λ j E=>jP B E)).symm
 have J:J2 M k=0:=if_pos D;refine(UM k w B).mono ?_;rintro e w' ⟨a,m,rfl,u,H,y⟩;rw[I]at u y⊢;rw[J];have z:(rowsOf b k).length=128:=kR K.1 A;rw[z]at u y⊢;exact⟨a,m,rfl,y,u,H⟩
def lZ(o:Mark)(i:Nat)(w:World)(d n:Nat)(b:I8)(cl:Prop)(c:Int)(v:Value)(e:Ending)(w':World):Prop:=
 e= .returned v/\∃o',Step o (λ k=>k=i) w o' w'/\dw o' i w' d n b cl c
open Classical in
theorem lZ.of{F z:Nat->Prop}{D E:Nat}{l:List (Int×Value)}{M:fF}{v:Value}(R:Marks W o w)(Q:i≠0)(H:∀x,F x->o x=i)(G:dB z w' d D E l M)(A:∀x,z x->F x\/w.heap.size<=x)(O:Keeps F w w')(N:M.safe.length=n*128)(K:vI M=b)(P:cl->M.dirty=[])(J:M.writes<=c):lZ o i w d n b cl c v (.returned v) w':=by
 obtain⟨o',B⟩:∃o':Mark,∀x,o' x=if x<w.heap.size then o x else if z x then i else 0:=⟨_,λ _=>rfl⟩;refine⟨rfl,o',⟨λ x m=>by rw[B,if_pos m],λ x m C=> ?_,O.mono λ x _ m=>H x m⟩,⟨z,D,E,l,M,G,λ x m=> ?_,N,K,P,J⟩⟩
 ·rw[B,if_neg (by omega)]at C⊢;by_cases u:z x
  ·rw[if_pos u];exact⟨rfl,G.low x u⟩
  ·rw[if_neg u]at C;exact absurd rfl C
 ·rw[B];by_cases y:x<w.heap.size
  ·rw[if_pos y];rcases A x m with I|I
   ·exact H x I
   ·omega
  ·rw[if_neg y,if_pos m]
theorem Qf{F:Nat->Prop}{E G:Nat}{l:List (Int×Value)}{M:fF}(A:dB F w d E G l M)(B:M.safe.length=n*128)(k:Nat)(D:k<n)(u:I8)(C:u.length=128):vI (zl M k u)=splice (vI M) (k*128) u:=by
 have I:pG M k:=⟨by omega,by rw[B,abp _ (by omega)];omega⟩;have y:M.safe.length/128=n:=by rw[B,abp _ (by omega)]
 unfold vI;rw[y];rw[zk D (λ j z=>jP A (by rw[y];exact z)) (by omega)];have e:zl M k u=⟨M.safe,dO (λ a b:Int=>decide (a<b)) k u M.dirty,M.writes+1⟩:=if_pos ⟨I,C⟩;rw[e];dsimp only;rw[y];refine lD λ j z=> ?_;unfold eZ;dsimp only;rw[fO];by_cases m:j=k
 ·subst m;have H:(eZ M j).length=128:=jP A (by rw[y];exact z);unfold eZ at H;rw[if_pos rfl,if_pos rfl,C,aay (by omega),aaz];rfl
 ·rw[if_neg (by omega),if_neg m]
theorem MK(h:dw o i w d n b cl c)(H:Marks W o w)(G:i≠0):Dy 39 #[ptr d] w (lZ o i w d n b True c (.tuple #[])):=by
 have y:=h.len;obtain⟨F,I,J,l,M,C,D,K,B,N,A⟩:=h.at_;refine(FB w C).mono ?_;rintro e w' ⟨rfl,u,E⟩;have m:(JY M).safe=b:=B;refine lZ.of H G D u (λ x z=> .inl z) E ?_ ?_ (λ _=>rfl) A
 ·rw[m];exact y.1
 ·rw[zm rfl (by rw[m,y.1];omega),m]
end
open Go.ChangeShapes Go.WideShapes Go.ChangeAt Go.RowKit Go.Shelf
attribute [local go_sem] Oper.semAt_some
theorem IW(a:Mx)(n c:Nat)(w:World):Dy 91 #[.slice a n c,.int .i64 128] w λ e w'=>e= .returned (.func (.func 159) #[] #[.pointer (some ⟨w.heap.size,0,none⟩),.pointer (some ⟨w.heap.size+1,0,none⟩)])/\w'=(w.alloc (.cells #[.slice a n c] 30)).alloc (.cells #[.int .i64 128] 3):=by
 go_enter Tryz.func91,Tryz.ntmps91;go_wp2_with fail;go_ret;simp
theorem C8(F:Fence)(n:Nat)(O:F.fn 159)(A:F.round=none)(R:1<=n)(u y b m c N:Nat)(P:N<=5000)(D:N*128<=c)(w:World)(I:u<w.heap.size)(G:y<w.heap.size)(B:w.cell? ⟨u,0,none⟩=some (.slice (some ⟨b,m,none⟩) (N*128) c))(z:w.cell? ⟨y,0,none⟩=some (.int .i64 128)):
  SeqStopsK F n Tryz.prog 159 #[.pointer (some ⟨u,0,none⟩),.pointer (some ⟨y,0,none⟩)] (λ x:Fin N=>Fz b m x.val) (Z8 u y) (λ xs=>xs=List.finRange N) (λ _=>True) N w:=λ l J K W C H Q E M=>
 UJ F n O A R l u y b m c N P D J K W.heap.size H E W ((C.cell (p:=⟨u,0,none⟩) I).trans B) ((C.cell (p:=⟨y,0,none⟩) G).trans z) M
theorem Z8.trans{m u:Nat}{A B C:World}(h:Z8 m u A B)(k:Z8 m u B C):Z8 m u A C:=⟨k.1.trans h.1,k.2.trans h.2⟩
theorem Z8.put{m u s:Nat}(B:m<s)(z:u<s)(W:World)(l:Nat)(o y:Obj)(A:s<=l):Z8 m u W (W.putObj l y):=
 ⟨World.cell?_of_block (a:=⟨m,0,none⟩) (World.putObj_heap_other (by dsimp only;omega)),World.cell?_of_block (a:=⟨u,0,none⟩) (World.putObj_heap_other (by dsimp only;omega))⟩
theorem dB.slim{F:Nat->Prop}{d B u:Nat}{l:List (Int×Value)}{M:fF}{w:World}(h:dB F w d B u l M):dB (λ x=>F x/\(x=u\/∃c t m,w.heap[x]? =some (.cells c t m))) w d B u l M:=
 ⟨h.head,h.safe,h.len,h.map,h.sorted,λ k=>(h.rows k).imp λ x y D=>by
  obtain⟨H,b,z,A,G,⟨I,K⟩,C,J⟩:=D;exact⟨H,b,z,A,G,⟨⟨I,.inr ⟨_,_,_,C⟩⟩,K⟩,C,J⟩,h.range,⟨⟨h.own.1,.inr ⟨_,_,_,h.head⟩⟩,⟨h.own.2.1,.inr ⟨_,_,_,h.safe⟩⟩,⟨h.own.2.2,.inl rfl⟩⟩,h.apart,λ x E=>h.low x E.1,h.writes⟩
def C9(u:I8){N:Nat}(m:List (Fin N)):List UInt8:=(m.map λ x=>rowsOf u x.val).flatten
theorem IX{u:I8}{N:Nat}(h:u.length=N*128):∀m:List (Fin N),(C9 u m).length=m.length*128
 |[]=>rfl
 |x::r=>by
  have y:=IX h r;unfold C9 at y⊢;rw[aau,List.flatten_cons,List.length_append,y,kR h x.isLt,List.length_cons];omega
theorem IY{m:I8}{N:Nat}(h:m.length=N*128):C9 m (List.finRange N)=m:=by
 have u:=qE h;unfold mix at u;unfold C9;have e:(List.finRange N).map (λ x:Fin N=>rowsOf m x.val)=(List.range N).map (rowsOf m):=by apply List.ext_getElem<;>simp
 rw[e];exact u
theorem ML{α:Type}(s:List α)(m:Nat)(a b:List α)(h:m+a.length+b.length<=s.length):splice (splice s m a) (m+a.length) b=splice s m (a++b):=by
 have y:(s.take m).length=m:=by rw[List.length_take];omega
 have u:(s.take m++a).length=m+a.length:=by rw[List.length_append,y]
 unfold splice;rw[List.length_append,<-List.append_assoc (s.take m) a,abr u,List.drop_append,aay (by omega),List.nil_append,u,Nat.add_sub_cancel_left,aaV,List.append_assoc,List.append_assoc,Nat.add_assoc]
structure wT(F0:Nat->Prop)(w1:World)(d sb mb bf n first:Nat)(img bs:I8)(c:Int){N:Nat}(pre:List (Fin N))(W:World):Prop where
 at_:∃F l M,dB F W d sb mb l M/\(∀x,F x->x=mb\/∃c t m,W.heap[x]? =some (.cells c t m))/\(∀x,F x->F0 x\/w1.heap.size<=x)/\M.safe.length=n*128/\vI M=splice img (first*128) (C9 bs pre)/\M.writes<=c+pre.length
 keep:Keeps (λ x=>F0 x\/x=bf) w1 W
 box:W.heap[bf]? =some (.cells #[.int .i64 ((first+pre.length:Nat):Int)] 3 (0,0))
section
variable{F0:Nat->Prop}{w1:World}{d sb mb bf n first:Nat}{img bs:I8}{c:Int}{N:Nat}
theorem wT.own(B:bf<w1.heap.size)(P:mb<w1.heap.size):OwnFrom w1.heap.size (λ(z:List (Fin N)) W=>wT F0 w1 d sb mb bf n first img bs c z W):=λ z W Q D h A u=>by
 obtain⟨F,l,M,H,G,S,K⟩:=h.at_;have C:∀x,F x->some x≠D:=λ x y e=>by
  obtain⟨I,o,J,R⟩:=u x e.symm;rcases G x y with rfl|⟨U,t,m,O⟩
  ·omega
  ·rw[O]at J;cases J;cases R
 have E:∀x,F x->Q.heap[x]? =W.heap[x]? :=λ x y=>A.block x (H.low x y) (C x y);refine⟨⟨F,l,M,H.keep A.size E,λ x y=> ?_,S,K⟩,h.keep.trans (Keeps.grown A) λ x y e=> ?_,(A.block bf (Pd B h.keep.size) λ e=> ?_).trans h.box⟩
 ·rw[E x y];exact G x y
 ·obtain⟨I,_⟩:=u x e;omega
 ·obtain⟨I,_⟩:=u bf e.symm;omega
theorem wT.start{l:List (Int×Value)}{M:fF}(h:dB F0 w1 d sb mb l M)(A:∀x,F0 x->x=mb\/∃c t m,w1.heap[x]? =some (.cells c t m))(D:M.safe.length=n*128)(B:vI M=img)(C:M.writes<=c)(u:w1.heap[bf]? =some (.cells #[.int .i64 (first:Int)] 3 (0,0)))(y:first*128<=img.length):wT F0 w1 d sb mb bf n first img bs c ([]:List (Fin N)) w1:=
 ⟨⟨F0,l,M,h,A,λ x z=> .inl z,D,by rw[B];unfold splice C9;simp,by simpa using C⟩,Keeps.refl _ _,u⟩
theorem wT.write{S:Nat->Prop}{u:List (Fin N)}{W:World}(h:wT F0 w1 d sb mb bf n first img bs c u W)(x:Fin N)(hl:u.length<N)(aB:first+N<=n)(I:bs.length=N*128)(R:img.length=n*128)(hc:c+N<=1000000000000)(P:bf<w1.heap.size)(aD:mb<w1.heap.size)(hF:¬F0 bf)(a:Mx)(K:Nat)(hr:ah S W a 128 ((rowsOf bs x.val).map bv)):
  Dy 92 #[ptr d,.int .i64 ((first+u.length:Nat):Int),.slice a 128 K] W λ e C=>e= .returned (.int .i64 0)/\C.heap[bf]? =W.heap[bf]? /\KeepsFrom w1.heap.size W C/\(∀y,y<w1.heap.size->¬F0 y->C.heap[y]? =W.heap[y]?)/\
   wT F0 w1 d sb mb bf n first img bs c (u++[x]) (C.setCell ⟨bf,0,none⟩ (.int .i64 ((first+u.length+1:Nat):Int))):=by
 obtain⟨F,l,M,hD,h2,X,h4,h5,h6⟩:=h.at_;obtain⟨k,hk⟩:∃k,k=first+u.length:=⟨_,rfl⟩
 rw[<-hk];have ak:k<n:=by omega
 have E:(rowsOf bs x.val).length=128:=kR I x.isLt;have Qe:pG M k:=⟨by omega,by rw[h4,abp _ (by omega)];omega⟩;have e:zl M k (rowsOf bs x.val)=⟨M.safe,dO (λ a b:Int=>decide (a<b)) k (rowsOf bs x.val) M.dirty,M.writes+1⟩:=if_pos ⟨Qe,E⟩;have e2:JZ M k (rowsOf bs x.val)=0:=if_pos ⟨Qe,E⟩;have J:¬F bf:=λ D=>by
  rcases X bf D with z|z
  ·exact hF z
  ·omega
 have aC:bf<W.heap.size:=(qW.1 h.box).1;have aF:=h.keep.size;refine(Qd k a 128 K (rowsOf bs x.val) (by omega) W hr hD).mono ?_;rintro e' C ⟨rfl,F',l',Y,Q,U⟩;rw[e2];have aA:=U.size;have B:∀y,y<w1.heap.size->¬F0 y->C.heap[y]? =W.heap[y]? :=λ y A Z=>U.block y (by omega) λ D=>by
  rcases X y D with z|z
  ·exact Z z
  ·omega
 have H:=(B bf P hF).trans h.box;refine⟨rfl,B bf P hF,⟨aA,λ j o hj V Z=> ?_⟩,B,?_⟩
 ·refine(U.block j (qW.1 V).1 λ D=> ?_).trans V;rcases h2 j D with rfl|⟨cs,t,m,av⟩
  ·omega
  ·rw[av]at V;cases V;cases Z
 ·have hS:=Y.slim;have O:∀y,F' y->y≠bf:=λ y A e9=>by
   rcases Q y A with z|z
   ·exact J (e9▸z)
   ·omega
  have G:∀y,y≠bf->(C.setCell ⟨bf,0,none⟩ (.int .i64 ((k+1:Nat):Int))).heap[y]? =C.heap[y]? :=λ y A=>aI C ⟨bf,0,none⟩ _ y A;refine⟨⟨_,l',zl M k (rowsOf bs x.val),hS.keep (by rw[size_set];exact Nat.le_refl _) λ y A=>G y (O y A.1),λ y A=> ?_,λ y A=> ?_,?_,?_,?_⟩,?_,?_⟩
  ·rw[G y (O y A.1)];exact A.2
  ·rcases Q y A.1 with z|z
   ·exact X y z
   ·exact .inr (by omega)
  ·rw[e];exact h4
  ·rw[Qf hD h4 k ak _ E,h5];have z:=IX I u;rw[show k*128=first*128+(C9 bs u).length by rw[z,hk];omega,ML _ _ _ _ (by rw[z,E,R];omega)];unfold C9;simp
  ·rw[e];show M.writes+1<=c+((u++[x]).length:Nat);rw[List.length_append,aaM];omega
  ·refine(h.keep.trans U λ y A D=> ?_).trans (Keeps.jy C ⟨bf,0,none⟩ _) λ y A D=> .inr D;rcases X y D with z|z
   ·exact .inl z
   ·omega
  ·rw[aG H,show first+(u++[x]).length=k+1 by rw[List.length_append,aaM,hk];omega];rfl
theorem wT.done{X w W:World}{o:Mark}{i D:Nat}{P I:Obj}(h:wT F0 w1 d sb mb bf n first img bs c (List.finRange N) W)(V:Marks X o w)(U:i≠0)(hF:∀x,F0 x->o x=i)(B:Below w.heap.size w w1)(H:∀x,F0 x->x<w.heap.size)(Y:w.heap.size<=bf)(hD:w1.heap.size<=D)(O:W.heap[D]? =some P)(S:mb<w.heap.size)(E:P.isCells=false)(C:bs.length=N*128):lZ o i w d n (splice img (first*128) bs) False (c+N) (.tuple #[]) (.returned (.tuple #[])) (W.putObj D I):=by
 obtain⟨F,l,M,K,h2,h3,Z,h5,J⟩:=h.at_;have A:=h.keep;have hs:=A.size;have Q:=B.size;have y:=grownBy_putObj' W D I;have G:∀x,F x->x≠D:=λ x u e=>by
  subst e;rcases h2 x u with rfl|⟨cs,t,m,R⟩
  ·omega
  ·rw[R]at O;cases O;cases E
 refine lZ.of V U hF (K.keep y.size λ x u=>y.block x (K.low x u) λ e=>G x u (aat e)) (λ x u=> ?_) ?_ Z ?_ (λ h=>h.elim) ?_
 ·rcases h3 x u with z|z
  ·exact .inl z
  ·exact .inr (by omega)
 ·refine⟨y.os.trans (A.os.trans B.os),y.tape.trans (A.tape.trans B.tape),y.output.trans (A.output.trans B.output),by have:=y.size;omega,λ x u E=> ?_⟩;exact(y.block x (by omega) λ e=>by have:=aat e;omega).trans ((A.block x (by omega) λ z=>by
   rcases z with z|z
   ·exact E z
   ·omega).trans (B.block x u))
 ·rw[h5,IY C]
 ·rw[List.length_finRange]at J;exact J
theorem wT.flush{W0 w W:World}{o:Mark}{i D:Nat}{U:Obj}(h:wT F0 w1 d sb mb bf n first img bs c (List.finRange N) W)(hM:Marks W0 o w)(hi:i≠0)(hF:∀x,F0 x->o x=i)(G:Below w.heap.size w w1)(X:∀x,F0 x->x<w.heap.size)(aB:w.heap.size<=bf)(hD:w1.heap.size<=D)(K:W.heap[D]? =some U)(av:mb<w.heap.size)(hn:U.isCells=false)(O:bs.length=N*128):
  Dy 39 #[ptr d] W λ e J=>e= .returned (.tuple #[])/\J.heap[D]? =some U/\∀P,lZ o i w d n (splice img (first*128) bs) True (c+N) (.tuple #[]) (.returned (.tuple #[])) (J.putObj D P):=by
 obtain⟨F,l,M,R,h2,Z,h4,h5,Y⟩:=h.at_;have E:=h.keep;have hs:=E.size;have ak:=G.size;have aA:=R.len;have S:=λ j (hj:j<M.safe.length/128)=>jP R hj;have I:∀x,F x->x≠D:=λ x y e=>by
  subst e;rcases h2 x y with rfl|⟨cs,t,m,hc⟩
  ·omega
  ·rw[hc]at K;cases K;cases hn
 refine(FB W R).mono ?_;rintro e J ⟨rfl,B,A⟩;have Q:=(qW.1 K).1;have aC:=A.size;refine⟨rfl,(A.block D Q λ y=>I D y rfl).trans K,λ P=> ?_⟩;have z:=grownBy_putObj' J D P;have V:(JY M).safe=splice img (first*128) bs:=by rw[<-IY O,<-h5];rfl
 have C:(JY M).safe.length=n*128:=by
  show(mix _ _).length=_;rw[xM S,h4];omega
 refine lZ.of hM hi hF (B.keep z.size λ x y=>z.block x (B.low x y) λ e=>I x y (aat e)) (λ x y=> ?_) ?_ C ?_ (λ _=>rfl) ?_
 ·rcases Z x y with u|u
  ·exact .inl u
  ·exact .inr (by omega)
 ·refine⟨z.os.trans (A.os.trans (E.os.trans G.os)),z.tape.trans (A.tape.trans (E.tape.trans G.tape)),z.output.trans (A.output.trans (E.output.trans G.output)),by have:=z.size;omega,λ x y H=> ?_⟩;exact(z.block x (by omega) λ e=>by have:=aat e;omega).trans ((A.block x (by omega) λ u=>by
   rcases Z x u with u|u
   ·exact H u
   ·omega).trans ((E.block x (by omega) λ u=>by
   rcases u with u|u
   ·exact H u
   ·omega).trans (G.block x y)))
 ·rw[zm rfl (by rw[C];omega),V]
 ·rw[List.length_finRange]at Y;exact Y
end
attribute [local go_sem] Oper.semAt_some
theorem alloc4(w m:World)(A B C D:Obj)(h:m=(((w.alloc A).alloc B).alloc C).alloc D):m.heap.size=w.heap.size+4/\Below w.heap.size w m/\m.heap[w.heap.size]? =some A/\m.heap[w.heap.size+1]? =some B/\m.heap[w.heap.size+2]? =some C/\m.heap[w.heap.size+3]? =some D:=by
 have a0:=World.alloc_heap_new w A;have F:=World.alloc_heap_new (w.alloc A) B;have y:=World.alloc_heap_new ((w.alloc A).alloc B) C;have a3:=World.alloc_heap_new (((w.alloc A).alloc B).alloc C) D;have E:(w.alloc A).heap.size=w.heap.size+1:=Pe _ _;have z:((w.alloc A).alloc B).heap.size=w.heap.size+2:=by rw[Pe,E]
 have u:(((w.alloc A).alloc B).alloc C).heap.size=w.heap.size+3:=by rw[Pe,z]
 rw[E]at F;rw[z]at y;rw[u]at a3;subst h;refine⟨by rw[Pe,u],(((((Below.refl _ w).alloc acs _).alloc (by omega) _).alloc (by omega) _).alloc (by omega) _),?_,?_,?_,a3⟩
 ·rw[Below.heap_alloc _ _ _ (by omega),Below.heap_alloc _ _ _ (by omega),Below.heap_alloc _ _ _ (by omega)];exact a0
 ·rw[Below.heap_alloc _ _ _ (by omega),Below.heap_alloc _ _ _ (by omega)];exact F
 ·rw[Below.heap_alloc _ _ _ (by omega)];exact y
theorem FE{W w:World}{o:Mark}{i d n:Nat}{Q:I8}{cl:Prop}{c:Int}(h:dw o i w d n Q cl c)(hM:Marks W o w)(hi:i≠0)(hc:c<=100000000000)(first N:Nat)(h0:0<N)(Y:first+N<=n)(a:Mx)(O:Nat)(S:I8)(U:S.length=N*128)(hr:ah (λ x=>o x≠i) w a (N*128) (S.map bv))(aN:N*128<=O):
  Dy 34 #[ptr d,.int .i64 first,.slice a (N*128) O] w (lZ o i w d n (splice Q (first*128) S) False (c+N) (.tuple #[])):=by
 have M:=h.len;obtain⟨F0,sb,P,l0,M0,Z,hF,h1,h2,h3,h4⟩:=h.at_;have Z:=Z.slim;obtain⟨I,F⟩:∃I:Nat->Prop,I=λ x=>F0 x/\(x=P\/∃c t m,w.heap[x]? =some (.cells c t m)):=⟨_,rfl⟩;rw[<-F]at Z;have av:∀x,I x->o x=i:=λ x u=>by rw[F]at u;exact hF x u.1
 have aD:∀x,I x->x=P\/∃c t m,w.heap[x]? =some (.cells c t m):=λ x u=>by rw[F]at u;exact u.2
 clear F;obtain⟨b,z,rfl,-,dn,-⟩:=hr.at_ (by omega);obtain⟨C,hC⟩:∃C,C=N*128:=⟨_,rfl⟩;rw[<-hC];have HD:=acp Z;have HR:=acp hr;have HC:=acp hC;clear h hr hF Z hC;refine(abB (n:=6)).1 ?_;refine callsIn_of_wp_marks Tryz.func34 rfl trivial ?_ rfl;simp only[Tryz.ntmps34,abR,List.length_cons,List.length_nil,Nat.reduceAdd,Nat.reduceSub,Array.replicate_succ,Array.replicate_zero,List.push_toArray,List.append_toArray,List.nil_append,ab2]
 gi_wp2_with (refine⟨trivial,?_⟩;gi_at_call 91;refine(abB.2 (IW _ _ _ _)).mono ?_;rintro e w' ⟨rfl,rfl⟩)
 obtain⟨E,X⟩:∃E,E=((((w.alloc (.cells #[ptr d] 23)).alloc (.cells #[.int .i64 (first:Int)] 3)).alloc (.cells #[.slice (some ⟨b,z,none⟩) C O] 30)).alloc (.cells #[.int .i64 128] 3)):=⟨_,rfl⟩;rw[<-X];obtain⟨cB,R,k0,k1,k2,k3⟩:=alloc4 _ _ _ _ _ _ X;have k2:E.cell? ⟨w.heap.size+2,0,none⟩=some (.slice (some ⟨b,z,none⟩) C O):=by simp[World.cell?,k2]
 have k3:E.cell? ⟨w.heap.size+3,0,none⟩=some (.int .i64 128):=by simp[World.cell?,k3]
 have A:∀x,I x->x<w.heap.size:=λ x u=>HD.o.low x u;have bD:dB I E d sb P l0 M0:=HD.o.below R acs;have aA:∀x,I x->x=P\/∃c t m,E.heap[x]? =some (.cells c t m):=λ x u=>by rw[R.block x (A x u)];exact aD x u
 have aC:P<w.heap.size:=A P HD.o.own.2.2;have aB:=acp R
 refine wpIn_rangeFunc_ownG (α:=Fin N) rfl (by omega) (gf:=159) (lb:= #[.pointer (some ⟨w.heap.size+2,0,none⟩),.pointer (some ⟨w.heap.size+3,0,none⟩)]) rfl trivial (enters_of Tryz.func159 (by kernel_rfl) rfl)
  (C8 Fence.wide (6-1) trivial rfl (by omega) (w.heap.size+2) (w.heap.size+3) b z O N (by omega) aN E (by omega) (by omega) (by rw[k2,HC.o]) k3) (λ h k=>h.trans k) (λ W l o o' hl _ _ _=>Z8.put (s:=E.heap.size) (by omega) (by omega) W l o o' hl) acu (λ _=>rfl)
  (λ H W=>wT I E d sb P (w.heap.size+1) n first Q S c H W) (λ _ _ _=>False) (wT.own (by omega) (by omega)) (λ _ _ _ _ _ hs _ _=>hs.elim) (wT.start bD aA h1 h2 h4 k1 (by rw[M.1];omega))
  (λ x=>{tmps:= #[ptr d,.int .i64 first,.slice (some ⟨b,z,none⟩) C O,.pointer (some ⟨w.heap.size,0,none⟩),.pointer (some ⟨w.heap.size+1,0,none⟩),undef,.slice (some ⟨b,z+x.val*128,none⟩) 128 128,.slice (some ⟨b,z,none⟩) C O,.func (.func 159) #[] #[.pointer (some ⟨w.heap.size+2,0,none⟩),.pointer (some ⟨w.heap.size+3,0,none⟩)],.slice (some ⟨b,z+x.val*128,none⟩) 128 128,undef,undef,undef,undef,undef,undef],defers:=[]}) ?assign ?body ?done ?stop
 case assign=>
  intro l x W K hK;dsimp only[Fz]
  gi_wp2
  exact hK
 case body=>
  intro l H x W G aL;have bq:∀y,y<E.heap.size->w.heap.size<=y->y≠w.heap.size+1->W.heap[y]? =E.heap[y]? :=λ y hy bS bf=>G.keep.block y hy λ u=>by
   rcases u with u|u
   ·have:=A y u;omega
   ·exact bf u
  have c0:W.cell? ⟨w.heap.size,0,none⟩=some (ptr d):=by simp[World.cell?,bq w.heap.size (by omega) (by omega) (by omega),k0]
  have J:ah (λ _=>True) W (some ⟨b,z+x.val*128,none⟩) 128 ((rowsOf S x.val).map bv):=by
   have h9:ah (λ x=>o x≠i) W (some ⟨b,z,none⟩) (N*128) (S.map bv):=HR.o.kept (by have:=G.keep.size;omega) λ y hy bn=>(G.keep.block y (by omega) λ u=>by
    rcases u with u|u
    ·exact hy (av y u)
    ·omega).trans (aB.o.block y bn)
   have h8:=(h9.drop (x.val*128)).take 128;have u:=x.isLt;rw[aa3 (by omega),<-aaU,<-aaJ]at h8;exact h8.mono λ _ _=>trivial
  have hw:=G.write x aL Y U M.1 (by omega) (by omega) (by omega) (λ h9=>by have:=A _ h9;omega) (some ⟨b,z+x.val*128,none⟩) 128 J;have B:=G.box;obtain⟨q,hq⟩:∃q,q=first+H.length:=⟨_,rfl⟩
  rw[<-hq]at hw B;have e1:wrap64 ((q:Int)+1)=((q+1:Nat):Int):=by unfold wrap64;omega
  have c1:W.cell? ⟨w.heap.size+1,0,none⟩=some (.int .i64 (q:Int)):=by simp[World.cell?,B]
  have HW:=acp hw;have HI:=acp G;have nR:=acp B;have bT:1<=6-1-1:=by omega
  clear hw G hq J B
  gi_wp2
  refine⟨trivial,?_⟩;refine(CallsIn.inRound l (abB.2 HW.o)).mono ?_;rintro e W2 ⟨rfl,B,aF,MN,V⟩;have c2:W2.cell? ⟨w.heap.size+1,0,none⟩=some (.int .i64 (q:Int)):=(World.cell?_of_block B).trans c1;have f2:W2.frozen? ⟨w.heap.size+1,0,none⟩=false:=by simp[World.frozen?,B,nR.o]
  have aJ:=acp V;clear V
  gi_wp2
  have ak:∀y,w.heap.size<=y->¬I y:=λ y hy u=>by have:=A y u;omega
  refine⟨aF.trans ((KeepsOthers.setCell _ _ _).from _),⟨?_,?_⟩,aJ.o⟩
  ·exact World.cell?_of_block (a:=⟨w.heap.size+2,0,none⟩) ((aI W2 ⟨w.heap.size+1,0,none⟩ _ _ (by simp)).trans (MN _ (by dsimp only;omega) (ak _ (by dsimp only;omega))))
  ·exact World.cell?_of_block (a:=⟨w.heap.size+3,0,none⟩) ((aI W2 ⟨w.heap.size+1,0,none⟩ _ _ (by simp)).trans (MN _ (by dsimp only;omega) (ak _ (by dsimp only;omega))))
 case done=>
  rintro D xs W aH rfl G hK
  gi_wp2
  refine⟨by simp,.inl ⟨_,_,rfl,run_takeDeferred hK,?_⟩⟩;refine⟨_,results_none rfl _ _ _,?_⟩;exact G.done hM hi av aB.o (λ x u=>(A x u)) (by omega) aH hK aC rfl U
 case stop=>
  rintro D c H W _ _ h _;exact h.elim
