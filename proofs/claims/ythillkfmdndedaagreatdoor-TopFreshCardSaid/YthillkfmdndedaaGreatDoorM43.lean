/- package -/
import Derived.Test.YthillkfmdndedaaGreatDoorM42
import Derived.Deep.MidRow
set_option maxRecDepth 100000
set_option maxHeartbeats 64000000
set_option linter.all false
namespace Go.Proofs.YthillkfmdndedaaGreatDoor
open Go.ChangeShapes Go.WideShapes Go.ChangeAt Go.RowKit
structure oo where
 b:List UInt8
 c:Int
 M:dQ
 cs:Int
 L:jq
 gen:Int
 seq:Int
 dN:Int
 recs:Int
 id:List UInt8
def Z9(n d q p:Nat)(A:Mx)(D:Nat)(y u C m:Int)(z:Mx)(B:Nat):Array Value:= #[ptr d,ptr q,ptr p,.int .i64 (n:Int),.int .i64 ((n:Int)/4),.int .i64 (((n:Int)-1-2*((n:Int)/4))/8),.slice A 16 D,.int .u64 y,.int .u64 u,.int .i64 C,.int .i64 m,.slice z 32 B]
structure eB(W:World)(o:Mark)(i B sb:Nat)(w:World)(v n d:Nat)(V:oo):Prop where
 at_:∃q p ia ic ha hc,w.heap[v]? =some (.cells (Z9 n d q p ia ic V.gen V.seq V.dN V.recs ha hc) 62 (0,0))/\vo W o sb w q V.cs V.M/\gK o (B+20) w p n d V.L/\ah (Free o w) w ia 16 (V.id.map bv)
 own:o v=B+19
 low:v<w.heap.size
 disk:dw o i w d n V.b True V.c
section
variable{W w w':World}{o o':Mark}{i B sb v n d q p:Nat}{V:oo}
theorem eB.marks(h:eB W o i B sb w v n d V):Marks W o w:=by
 obtain⟨q,p,y,C,u,z,D,m,A⟩:=h.at_;exact m.marks
theorem vo.Az{c:Int}{M:dQ}{I:Nat->Prop}(h:vo W o sb w p c M)(m:¬I 0)(A:¬I sb)(y:¬I (sb+1))(z:¬I (sb+2))(u:Step o I w o' w'):vo W o' sb w' p c M:=
 ⟨h.st.step m A y z u,h.marks.step m u,h.ok⟩
theorem kS{w:World}{b n d q p:Nat}{A z:Mx}{D B:Nat}{y u C m:Int}(h:w.heap[b]? =some (.cells (Z9 n d q p A D y u C m z B) 62 (0,0))):w.cell? ⟨b,0,none⟩=some (ptr d)/\w.cell? ⟨b,1,none⟩=some (ptr q)/\w.cell? ⟨b,2,none⟩=some (ptr p)/\w.cell? ⟨b,3,none⟩=some (.int .i64 (n:Int))/\w.cell? ⟨b,4,none⟩=some (.int .i64 ((n:Int)/4))/\w.cell? ⟨b,5,none⟩=some (.int .i64 (((n:Int)-1-2*((n:Int)/4))/8))/\w.cell? ⟨b,6,none⟩=some (.slice A 16 D)/\w.cell? ⟨b,7,none⟩=some (.int .u64 y)/\w.cell? ⟨b,8,none⟩=some (.int .u64 u)/\w.cell? ⟨b,9,none⟩=some (.int .i64 C)/\w.cell? ⟨b,10,none⟩=some (.int .i64 m)/\w.cell? ⟨b,11,none⟩=some (.slice z 32 B):=by
 refine⟨?_,?_,?_,?_,?_,?_,?_,?_,?_,?_,?_,?_⟩<;>simp[World.cell?,h,Z9]
def BgGive(W:World)(o:Mark)(i B sb:Nat)(w:World)(n d:Nat)(V:oo)(e:Ending)(w':World):Prop:=
 ∃v o',e= .returned (ptr v)/\Step o (λ m=>m=B+19\/m=B+20) w o' w'/\eB W o' i B sb w' v n d V
theorem FY{b:I8}{c cs:Int}{M:dQ}{k:Nat}{head:I8}{next:Int}(hD:dw o i w d n b True c)(E:vo W o sb w q cs M)(hL:gK o (B+20) w p n d ⟨k,head,next,[]⟩)(hB:0<B)(hi:i<B)(dG:sb+4<B+19)(hk:k<fM n)(hz:secs b (nu n k) 8=List.replicate 1024 0)(dK:1<=next/\next<=1099511627776)
  (C D Z y:Int)(id:I8)(P Q:Mx)(U J:Nat)(bf:ah (Free o w) w P 16 (id.map bv)):
  Dy 41 #[ptr d,ptr q,ptr p,.agg (sM n P U C D Z y Q J)] w (BgGive W o i B sb w n d ⟨b,c,M,cs,⟨k,head,next,[⟨2,next,[]⟩]⟩,C,D,Z,y,id⟩):=by
 have hM:=E.marks;have hl:=hD.len;obtain⟨z,F⟩:∃z,z=w.alloc (.cells (sM n P U C D Z y Q J) 60):=⟨_,rfl⟩;have A:Below w.heap.size w z:=by rw[F];exact wall w _
 have N:z.heap[w.heap.size]? =some (.cells (sM n P U C D Z y Q J) 60 (0,0)):=by rw[F];exact(MapKept.heap_alloc w _).1
 have bq:w.heap.size<z.heap.size:=(qW.1 N).1;have HF:=acp (λ(u:World) (H:Below z.heap.size z u)=>lW ((H.block _ bq).trans N));have Ez:acr (∀u:World,Below z.heap.size z u->Dy 88 #[ptr p] u λ e u'=>e= .returned (.int .i64 (k:Int))/\u=u'):=acp λ u H=>FK (hL.grow hM (A.trans (H.mono A.size)));have DT:acr (∀u:World,Below z.heap.size z u->Dy 25 #[ptr p] u λ e u'=>e= .returned (.int .u64 next)/\Below u.heap.size u u'):=acp λ u H=>by
  have V:=FI (hL.grow hM (A.trans (H.mono A.size))) (by show 0<=next/\next<=1099511627776;omega) (Nat.zero_le _);rw[show(⟨k,head,next,[]⟩:jq).next+(([]:List RecM).length:Int)=next from Int.add_zero _]at V;exact V
 have rW:acr (∀u:World,Below z.heap.size z u->Dy 110 #[ptr d,.agg (aU n),.int .i64 (k:Int)] u λ e w'=>∃a c,e= .returned (.slice a 1024 c)/\1024<=c/\ah (λ x=>u.heap.size<=x/\x<w'.heap.size) w' a 1024 ((List.replicate 1024 (0:UInt8)).map bv)/\Below u.heap.size u w'):=acp λ u H=>by
  have V:=FL (hD.grow (A.trans (H.mono A.size))) k hk;rw[hz]at V;exact V
 have aJ:wP ⟨2,next,[]⟩:=⟨.inr ⟨rfl,rfl⟩,by show 0<=next/\next<=1099511627776;omega,Nat.zero_le _⟩;have ZX:acr (∀u:World,Below z.heap.size z u->Dy 24 #[ptr p,.agg #[.int .i64 2,.int .u64 next,.slice none 0 0]] u λ e w'=>e= .returned (.int .i64 0)/\∃o',Step o (λ m=>m=B+20) u o' w'/\gK o' (B+20) w' p n d ⟨k,head,next,[⟨2,next,[]⟩]⟩):=acp λ u H=>by
  have aD:=A.trans (H.mono A.size);exact YI (S:=λ _=>True) (hL.grow hM aD) (hM.grow aD) (by omega) ⟨hl.2.1,hl.2.2⟩ hk (by show 0<=next/\next<=1099511627776;omega) (Nat.zero_le _) (λ x hx=>by cases hx) ⟨2,next,[]⟩ aJ (Int.add_zero _).symm (by show iC [⟨2,next,[]⟩]<=942;unfold iC;simp[og]) none 0 (ah.nil _ _ _) acs
 have Nu:=acp (λ(a:Mx) (c:Nat) (u:World) (S:Nat->Prop) (hr:ah S u a 1024 ((List.replicate 1024 (0:UInt8)).map bv)) (J:1024<=c)=>Ca a 1024 c u hr (by omega) J);have HD:=acp hD;have HS:=acp E;have EM:=acp bf;have HM:=acp hM;have bD:=acp A;have qP:=acp N;unfold sM at F⊢;unfold aU at rW;have bS:=acp F;clear hD E hL hM bf A N F hl aJ hz;go_enter Tryz.func41,Tryz.ntmps41;go_wp2_with fail;rw[<-bS.o];refine su ((λ w'=>w'.cell? ⟨w.heap.size,0,none⟩=some (.int .i64 (n:Int))/\w'.cell? ⟨w.heap.size,1,none⟩=some (.int .i64 ((n:Int)/4))/\w'.cell? ⟨w.heap.size,2,none⟩=some (.int .i64 (((n:Int)-1-2*((n:Int)/4))/8)))) ?_ λ E=> ?_
 ·obtain⟨f0,f1,f2,-⟩:=HF.o _ (Below.refl _ z).drew;exact⟨f0,f1,f2⟩
 refine aM 0 E ?_;refine aM 1 E ?_;refine aM 2 E ?_;refine aM 3 E ?_;refine lJ 4 λ K hK=> ?_;go_simp;refine(Ez.o _ (Below.refl _ z).drew).mono ?_;rintro e _ ⟨rfl,rfl⟩;go_wp2_with fail;refine kV hK (E) λ E=> ?_;clear hK K;refine lJ 5 λ K hK=> ?_;go_simp;refine(rW.o _ (Below.refl _ z).drew).mono ?_;rintro e w2 ⟨a2,c2,rfl,dn,aB,ak⟩;have X:acr (Below z.heap.size z w2):=acp ((Below.refl _ z).drew.trans ak);have aN:=acp (Nu.o a2 c2 w2 _ aB dn);clear aB ak;go_wp2_with fail;refine kV hK (by obtain⟨f0,f1,f2,-⟩:=HF.o _ X.o;exact⟨f0,f1,f2⟩) λ E=> ?_;clear hK K;refine aM 6 E ?_;refine rH ?_;clear E;go_wp2_with fail;refine aN.o.mono ?_;rintro e w3 ⟨rfl,av⟩;have R:=acp (X.o.trans (av.mono X.o.size));clear av aN;go_wp2_with fail;refine(DT.o _ R.o).mono ?_;rintro e w4 ⟨rfl,bn⟩;have dI:=acp (R.o.trans (bn.mono R.o.size));clear bn;go_wp2_with fail;refine(ZX.o _ dI.o).mono ?_;rintro e I ⟨rfl,o5,aF,aH⟩;have gL:=acp aF;have I4:=acp aH;clear aF aH;have cB:o w.heap.size=0:=Wy λ V=>by have:=(HM.o.new _ V).2;omega
 have O:¬(0=B+20):=by omega
 have aA:I.heap[w.heap.size]? =some (.cells (sM n P U C D Z y Q J) 60 (0,0)):=(gL.o.block (by have:=dI.o.size;omega) (by rw[cB];exact O)).trans ((dI.o.block _ bq).trans qP.o);obtain⟨f0,f1,f2,f3,f4,f5,f6,f7,f8⟩:=lW aA;clear aA;go_wp2_with fail;go_ret;obtain⟨w6,Kw⟩:∃w6,w6=I.alloc (.cells (Z9 n d q p P U C D Z y Q J) 62):=⟨_,rfl⟩;have aL:w6.heap[I.heap.size]? =some (.cells (Z9 n d q p P U C D Z y Q J) 62 (0,0)):=by rw[Kw];exact(MapKept.heap_alloc I _).1
 have bT:Below I.heap.size I w6:=by rw[Kw];exact wall I _
 have ZM:I.heap.size<w6.heap.size:=(qW.1 aL).1;unfold Z9 at Kw;rw[<-Kw];have aC:=bD.o.trans (dI.o.mono bD.o.size);have Y0:Step o (λ m=>m=B+20) w o5 I:=Step.behind HM.o aC gL.o;have Kn:=HM.o.step O Y0;obtain⟨o6,G,g1,g2⟩:=cK Kn (B+19) (λ b=>b=I.heap.size) (w':=w6) (λ b H=>by subst H;exact⟨Nat.le_refl _,ZM⟩) bT;have Y:¬(0=B+19):=by omega
 refine⟨I.heap.size,o6,rfl,(Y0.mono λ m hm=> .inr hm).trans (G.mono λ m hm=> .inl hm),⟨⟨q,p,P,U,Q,J,aL,(HS.o.Az O (by omega) (by omega) (by omega) Y0).Az Y (by omega) (by omega) (by omega) G,I4.o.step Y (by omega) G,(EM.o.free O Y0).free Y G⟩,g1 _ rfl,ZM,(HD.o.step (by omega) Y0).step (by omega) G⟩⟩
theorem U0{b:I8}{Z c:Int}(U:dw o i w d n b True Z)(Q:Marks W o w)(hB:0<B)(hi:i<B)(hf:∀x,o x≠B+15)(id:I8)(x y z:uD)(M N L:dQ)(k:Nat)(J:RF n b id c x y M N)(X:RG x y z M N L)(K:Last n b id z k)(hk:k<fM n):
  Dy 10 #[ptr d] w λ e w'=>∃v o',e= .returned (.tuple #[ptr v,.int .i64 0])/\Step o (Mm B) w o' w'/\eB W o' i B (B+14) w' v n d ⟨b,Z,gJ (gJ L),c,⟨k,z.head,z.seq+1,[⟨2,z.seq+1,[]⟩]⟩,z.gen,z.seq,(k:Int),0,id⟩:=by
 have Y1:=acp (FU U Q hB hi hf id x y z M N L k J X K);have ak:0<=z.seq:=by
  rcases X with⟨h3,rfl,rfl⟩|⟨h3,rfl,rfl⟩
  ·exact J.ok0.mark.seq.1
  ·exact J.ok1.mark.seq.1
 have VB:=K.seq;have P:=K.zero k acs hk;have HD:=acp U;have HM:=acp Q;clear U Q J X K;go_enter Tryz.func10,Tryz.ntmps10;go_wp2_with fail;refine Y1.o.mono ?_;rintro e I ⟨q,p,ia,ic,ha,hc,o1,rfl,D,E,H,G,V⟩;have mo:=acp D;have O:=acp E;have yO:=acp H;have S:=acp G;clear D E H G V Y1;unfold sM;go_wp2_with fail;have Y:¬Mm B 0:=λ e=>by have:=e.1;omega
 have u:Below I.heap.size I (I.alloc (.cells (sM n ia ic z.gen z.seq k 0 ha hc) 60)):=wall I _;have A:=FY (B:=B) ((HD.o.step (λ e=>by have:=e.1;omega) mo.o).grow u) (O.o.grow u) (yO.o.grow O.o.marks u) hB hi (by omega) hk P (by omega) z.gen z.seq k 0 id ia ha ic hc (S.o.grow' u O.o.marks);unfold sM at A;refine A.mono ?_;rintro e w3 ⟨v,o3,rfl,F,C⟩;have xR:=acp (((mo.o.then_ HM.o Y u).trans (F.mono λ m hm=>⟨by omega,by omega⟩)));have R:=acp C;unfold sM at xR;clear F C A u;go_wp2_with fail
 go_ret2
 exact⟨v,o3,rfl,xR.o,R.o⟩
end
def jH(k:Int)(wr:Bool):Int:=if k=17 then 2 else if k=14\/(k=6/\wr=true)then 1 else 0
theorem U1(x:iI)(wr:Bool)(I:Mx)(H:Nat)(w:World):Dy 26 #[.agg (opC x I H),.bool wr] w λ e w'=>e= .returned (.int .i64 (jH x.kind wr))/\Below w.heap.size w w':=by
 obtain⟨G,u⟩:∃G,G=w.alloc (.cells (opC x I H) 32):=⟨_,rfl⟩;have z:acr (Below w.heap.size w G):=by rw[u];exact wall w _
 have E:G.heap[w.heap.size]? =some (.cells (opC x I H) 32 (0,0)):=by rw[u];exact(MapKept.heap_alloc w _).1
 obtain⟨F,-⟩:=Cm E;clear E;unfold opC at u⊢;have m:=acp u;rw[u]at F;clear u;by_cases y:x.kind=17
 ·have A:acr (jH x.kind wr=2):=acp (by unfold jH;rw[if_pos y]);rw[A.o];rw[y]at F m⊢;clear y;go_enter Tryz.func26,Tryz.ntmps26;go_wp2_with fail;rw[<-m.o];go_ret;exact⟨rfl,z.o⟩
 ·have D:(x.kind==17)=false:=by simpa using y
  by_cases B:x.kind=14
  ·have A:acr (jH x.kind wr=1):=acp (by unfold jH;rw[if_neg y,if_pos (.inl B)]);rw[A.o];rw[B]at F m⊢;clear y D B;go_enter Tryz.func26,Tryz.ntmps26;go_wp2_with fail;rw[<-m.o];go_ret;exact⟨rfl,z.o⟩
  ·by_cases C:x.kind=6
   ·cases wr
    ·have A:acr (jH x.kind false=0):=acp (by unfold jH;rw[if_neg y,if_neg (by intro h;rcases h with h|h;exact B h;cases h.2)]);rw[A.o];rw[C]at F m⊢;clear y D B C;go_enter Tryz.func26,Tryz.ntmps26;go_wp2_with fail;rw[<-m.o];go_ret;exact⟨rfl,z.o⟩
    ·have A:acr (jH x.kind true=1):=acp (by unfold jH;rw[if_neg y,if_pos (.inr ⟨C,rfl⟩)]);rw[A.o];rw[C]at F m⊢;clear y D B C;go_enter Tryz.func26,Tryz.ntmps26;go_wp2_with fail;rw[<-m.o];go_ret;exact⟨rfl,z.o⟩
   ·have A:acr (jH x.kind wr=0):=acp (by unfold jH;rw[if_neg y,if_neg (by intro h;rcases h with h|h;exact B h;exact C h.1)]);have J:(x.kind==14)=false:=by simpa using B
    have K:(x.kind==6)=false:=by simpa using C
    rw[A.o];clear y B C;go_enter Tryz.func26,Tryz.ntmps26;go_wp2_with fail;rw[<-m.o];go_ret;exact⟨rfl,z.o⟩
section
variable{W w w':World}{o o':Mark}{i B sb v n d q p:Nat}{V:oo}
end
abbrev opA(kind:Int)(u B:ByteArray)(D at_ n C m:Int)(A:Mx)(z y:Nat):Value:= .agg #[.int .i64 kind,.string u,.string B,.int .i64 D,.int .i64 at_,.int .i64 n,.int .u64 C,.int .i64 m,.slice A z y]
structure xV(o:Mark)(w:World)(g:Nat)(r:tZ)(da la:Mx)(dc lc:Nat):Prop where
 own:o g=0
 low:g<w.heap.size
 at_:w.heap[g]? =some (.cells (eF r da la dc lc) 38 (0,0))
 dcap:r.data.length<=dc
 lcap:r.names.length<=lc
 data:ah (Free o w) w da r.data.length (r.data.map bv)
 names:aW (Free o w) w la r.names.length (r.names.map strOf)
abbrev reZ:Array Value:= #[.int .i64 0,.int .i64 0,.slice none 0 0,.slice none 0 0,.int .i64 0,.int .i64 0,.int .i64 0,.int .i64 0,.int .u64 0,.bool false]
section
variable{W w w' w4 w5:World}{o o':Mark}{g:Nat}{r:tZ}{da la:Mx}{dc lc:Nat}
theorem xV.step{I:Nat->Prop}(h:xV o w g r da la dc lc)(u:¬I 0)(m:Step o I w o' w'):xV o' w' g r da la dc lc:=
 ⟨(m.old g h.low).trans h.own,Pd h.low m.keep.size,(m.block h.low (by rw[h.own];exact u)).trans h.at_,h.dcap,h.lcap,h.data.free u m,⟨h.names.row.free u m,h.names.short⟩⟩
theorem xV.grow(h:xV o w g r da la dc lc)(u:Marks W o w)(m:Below w.heap.size w w'):xV o w' g r da la dc lc:=h.step (I:=λ _=>False) (λ e=>e) (Step.grow u m)
theorem xP(B:Marks W o w4)(F:r.data.length<=dc)(E:r.names.length<=lc)(D:ah (Free o w4) w4 da r.data.length (r.data.map bv))(z:aW (Free o w4) w4 la r.names.length (r.names.map strOf))
  (y:jK (w4.alloc (.cells reZ 38)) w4.heap.size (eF r da la dc lc) 38 w5):xV o w5 w4.heap.size r da la dc lc/\Below w4.heap.size w4 w5:=by
 have A:=y.below (wall w4 (.cells reZ 38)) acs;have u:w4.heap.size<w5.heap.size:=(qW.1 y.1).1;have m:Step o (λ _=>False) w4 o w5:=Step.grow B A;exact⟨⟨Wy λ C=>by have:=(B.new _ C).2;omega,u,y.1,F,E,D.free (λ e=>e) m,⟨z.row.free (λ e=>e) m,z.short⟩⟩,A⟩
theorem xV.er(h:xV o w g r da la dc lc):w.cell? ⟨g,0,none⟩=some (.int .i64 r.er):=by simp[World.cell?,h.at_,eF]
theorem xV.n(h:xV o w g r da la dc lc):w.cell? ⟨g,1,none⟩=some (.int .i64 r.n):=by simp[World.cell?,h.at_,eF]
theorem MZ(vs:List Value)(t:TypeId)(m:Nat×Nat)(u:vs.length<=maxLen):ah (λ x=>x=w.heap.size) (w.alloc (.cells vs.toArray t m)) (some ⟨w.heap.size,0,none⟩) vs.length vs:=by
 refine⟨rfl,u,λ _=>⟨_,0,rfl,rfl,by simp,λ i z=> ?_⟩⟩;have y:(w.alloc (.cells vs.toArray t m)).heap[w.heap.size]? =some (.cells vs.toArray t m):=(MapKept.heap_alloc w _).1;simp only[World.cell?,y];simp
end
structure Z_(q:Nat)(o:Mark)(w:World)(g:Nat)(x:iI)(da:Mx)(dc:Nat):Prop where
 own:o g=q
 low:g<w.heap.size
 at_:w.heap[g]? =some (.cells (opC x da dc) 32 (0,0))
section
variable{W w w' w4 w5:World}{o o':Mark}{q g i p:Nat}{c:Int}{x:iI}{M:dQ}{da:Mx}{dc:Nat}
theorem Z_.step{I:Nat->Prop}(h:Z_ q o w g x da dc)(u:¬I q)(m:Step o I w o' w'):Z_ q o' w' g x da dc:=
 ⟨(m.old g h.low).trans h.own,Pd h.low m.keep.size,(m.block h.low (by rw[h.own];exact u)).trans h.at_⟩
theorem Z_.grow(h:Z_ q o w g x da dc)(u:Marks W o w)(m:Below w.heap.size w w'):Z_ q o w' g x da dc:=h.step (I:=λ _=>False) (λ e=>e) (Step.grow u m)
theorem Z_.cells(h:Z_ q o w g x da dc):w.cell? ⟨g,0,none⟩=some (.int .i64 x.kind)/\w.cell? ⟨g,1,none⟩=some (.string (strOf x.path))/\w.cell? ⟨g,2,none⟩=some (.string (strOf x.bT))/\w.cell? ⟨g,3,none⟩=some (.int .i64 x.fd)/\w.cell? ⟨g,4,none⟩=some (.int .i64 x.at_)/\w.cell? ⟨g,5,none⟩=some (.int .i64 x.n)/\w.cell? ⟨g,6,none⟩=some (.int .u64 x.aL)/\w.cell? ⟨g,7,none⟩=some (.int .i64 x.snap)/\w.cell? ⟨g,8,none⟩=some (.slice da x.data.length dc)/\w.frozen? ⟨g,6,none⟩=false:=by
 have:=h.at_;unfold opC at this;refine⟨?_,?_,?_,?_,?_,?_,?_,?_,?_,?_⟩<;>simp[World.cell?,World.frozen?,this]
abbrev opZ:Array Value:= #[.int .i64 0,.string ⟨#[]⟩,.string ⟨#[]⟩,.int .i64 0,.int .i64 0,.int .i64 0,.int .u64 0,.int .i64 0,.slice none 0 0]
theorem Y2(B:Marks W o w4)(q:Nat)(y:jK (w4.alloc (.cells opZ 32)) w4.heap.size (opC x da dc) 32 w5):∃o',Step o (λ m=>m=q) w4 o' w5/\Z_ q o' w5 w4.heap.size x da dc:=by
 have A:=y.below (wall w4 (.cells opZ 32)) acs;have u:w4.heap.size<w5.heap.size:=(qW.1 y.1).1;obtain⟨o',z,C,D⟩:=cK B q (λ b=>b=w4.heap.size) (w':=w5) (λ b A=>by subst A;exact⟨Nat.le_refl _,u⟩) A;exact⟨o',z,C _ rfl,u,y.1⟩
theorem vo.one(h:vo W o i w p c M)(y:q≠0/\(q<i\/i+2<q))(u:Step o (λ m=>m=q) w o' w'):vo W o' i w' p c M:=
 ⟨h.st.step (λ e=>by omega) (λ e=>by omega) (λ e=>by omega) (λ e=>by omega) u,h.marks.step (λ e=>by omega) u,h.ok⟩
theorem xV.one{r:tZ}{y:Mx}{u:Nat}(h:xV o w g r da y dc u)(z:q≠0)(A:Step o (λ m=>m=q) w o' w'):xV o' w' g r da y dc u:=h.step (λ e=>z e.symm) A
end
abbrev Vm(i B:Nat):Nat->Prop:=λ m=>m=i\/(B<=m/\m<=B+20)
def FZ(W:World)(o:Mark)(i B:Nat)(w:World)(v n d:Nat)(V':oo)(r:tZ)(e:Ending)(w':World):Prop:=
 ∃m s,(s=B\/s=B+14)/\BJ m r e w'/\Step o (Vm i B) w m w'/\eB W m i B s w' v n d V'
theorem U2(r:tZ):∃a4 a5 B A C a9,∀u y z m,eF r u y z m= #[.int .i64 r.er,.int .i64 r.n,.slice u r.data.length z,.slice y r.names.length m,.int .i64 a4,.int .i64 a5,.int .i64 B,.int .i64 A,.int .u64 C,.bool a9]:=⟨_,_,_,_,_,_,λ _ _ _ _=>rfl⟩
theorem Cn{w:World}{g:Nat}{y u A F E D z m C B:Value}(h:w.heap[g]? =some (.cells #[y,u,A,F,E,D,z,m,C,B] 38 (0,0))):w.cell? ⟨g,0,none⟩=some y/\w.cell? ⟨g,1,none⟩=some u/\w.cell? ⟨g,2,none⟩=some A/\w.cell? ⟨g,3,none⟩=some F/\w.cell? ⟨g,4,none⟩=some E/\w.cell? ⟨g,5,none⟩=some D/\w.cell? ⟨g,6,none⟩=some z/\w.cell? ⟨g,7,none⟩=some m/\w.cell? ⟨g,8,none⟩=some C/\w.cell? ⟨g,9,none⟩=some B:=by
 refine⟨?_,?_,?_,?_,?_,?_,?_,?_,?_,?_⟩<;>simp[World.cell?,h]
theorem rdH2{P:Program}{u:Array Oper}{Q:Exit->Act->World->Prop}{B:Region.Mode}{S:World->Prop}(i j:Nat){A C:Oper}{y:Nat}{m:Array Bool}{a:Act}{w:World}
  (H:∀z:Act->World->Prop,Shut (∀a w,S w->(S w->wpAnyH P B u Q S y (m.setIfInBounds i true) a w)->z a w)->if Region.wanted A (yielded u a.tmps)=true then Oper.wp P A a w z Q else z (a.put A.dst undef) w)
  (G:∀z:Act->World->Prop,Shut (∀a w,S w->(S w->wpAnyH P B u Q S y (m.setIfInBounds j true) a w)->z a w)->if Region.wanted C (yielded u a.tmps)=true then Oper.wp P C a w z Q else z (a.put C.dst undef) w)
  (D:u[i]? =some A:=by simp only[aam,aaw,aar];rfl)(E:u[j]? =some C:=by simp only[aam,aaw,aar];rfl)(F:Region.ready B u m=[i,j]:=by kernel_rfl):wpAnyH P B u Q S (y+1) m a w:=
 wpAnyH_ready F (by simp) (AllReadyH.cons D H (AllReadyH.cons E G AllReadyH.nil))
section
variable{W w w':World}{o o':Mark}{i B sb v n d q p:Nat}{V:oo}
theorem eB.step{I:Nat->Prop}(h:eB W o i B sb w v n d V)(u:¬I 0)(H:¬I i)(G:¬I sb)(D:¬I (sb+1))(K:¬I (sb+2))(z:¬I (B+19))(J:¬I (B+20))(m:Step o I w o' w'):eB W o' i B sb w' v n d V:=by
 obtain⟨q,p,A,E,y,C,k1,k2,k3,F⟩:=h.at_;exact⟨⟨q,p,A,E,y,C,(m.block h.low (by rw[h.own];exact z)).trans k1,k2.Az u G D K m,k3.step u J m,F.free u m⟩,(m.old v h.low).trans h.own,Pd h.low m.keep.size,h.disk.step H m⟩
theorem eB.grow(h:eB W o i B sb w v n d V)(m:Below w.heap.size w w'):eB W o i B sb w' v n d V:=h.step (I:=λ _=>False) id id id id id id id (Step.grow h.marks m)
theorem Y3{y H:World}{u:Mark}{g R s:Nat}{r:tZ}{F A:Mx}{D E:Nat}{V':oo}(O:0<B)(P:i<B)(M:s=B\/s=B+14)(z:xV u y g r F A D E)(N:jK y R (eF r F A D E) 38 H)(J:u R=B+13)(K:eB W u i B s y v n d V')(I:Step o (Vm i B) w u y):FZ W o i B w v n d V' r (.returned (.agg (eF r F A D E))) H:=by
 have C:Step u (λ m=>m=B+13) y u H:=N.step K.marks J;have G:¬(0=B+13):=by omega
 exact⟨u,s,M,⟨_,rfl,F,A,D,E,rfl,z.dcap,z.lcap,z.data.free G C,⟨z.names.row.free G C,z.names.short⟩⟩,I.trans (C.mono λ m J=> .inr ⟨by omega,by omega⟩),K.step G (by omega) (by omega) (by omega) (by omega) (by omega) (by omega) C⟩
theorem va_put{u:World}{z:Mark}{G A:Nat}{H K:Mx}{P O:Nat}{b:I8}{c Q:Int}{M:dQ}{L:jq}{E F S D:Int}{id:I8}(R:u.heap[v]? =some (.cells (Z9 n d q p H P E F S D K O) 62 (0,0)))(N:vo W z A u G Q M)(V:gK z (B+20) u p n d L)(J:ah (Free z u) u H 16 (id.map bv))(C:z v=B+19)(X:dw z i u d n b True c)(Z:0<B)(hi:i<B)(U:A=B\/A=B+14):
  eB W z i B A (u.setCell ⟨v,1,none⟩ (ptr G)) v n d ⟨b,c,M,Q,L,E,F,S,D,id⟩/\Step z (λ m=>m=B+19) u z (u.setCell ⟨v,1,none⟩ (ptr G)):=by
 have y:Step z (λ m=>m=B+19) u z (u.setCell ⟨v,1,none⟩ (ptr G)):=⟨λ _ _=>rfl,λ b hb Y=>by have:=(N.marks.new b Y).2;omega,(Keeps.jy u ⟨v,1,none⟩ _).mono λ b _ (e:b=v)=>by rw[e];exact C⟩;have I:¬(0=B+19):=by omega
 refine⟨⟨⟨G,p,H,P,K,O,?_,N.Az I (by omega) (by omega) (by omega) y,V.step I (by omega) y,J.free I y⟩,C,?_,X.step (by omega) y⟩,y⟩
 ·rw[aG R];rfl
 ·rw[size_set];exact(qW.1 R).1
theorem Keeps.setCells(b:Nat):∀(vs:List Value) (k:Nat) (w:World),Keeps (λ x=>x=b) w (w.setCells b k vs)
 |[],_,w=>Keeps.refl _ _
 |x::vs,k,w=>(Keeps.jy w ⟨b,k,none⟩ x).trans (Keeps.setCells b vs (k+1) _) (λ _ _ h=>h)
def putC:List Value->Nat->Array Value->Array Value
 |[],_,m=>m
 |x::r,k,m=>putC r (k+1) (m.setIfInBounds k x)
theorem yw{t:TypeId}{z:Nat×Nat}(b:Nat):∀(vs:List Value) (k:Nat) (w:World) (m:Array Value),w.heap[b]? =some (.cells m t z)->(w.setCells b k vs).heap[b]? =some (.cells (putC vs k m) t z)
 |[],_,_,_,h=>h
 |x::vs,k,w,m,h=>yw b vs (k+1) (w.setCell ⟨b,k,none⟩ x) _ (aG h)
theorem putC9(G E H N R Q O K M P m u F y B J z C A I D:Value):putC [F,y,B,J,z,C,A,I,D] 3 #[G,E,H,N,R,Q,O,K,M,P,m,u]= #[G,E,H,F,y,B,J,z,C,A,I,D]:=by simp[putC]
theorem Y4{w:World}{D:World}(z:eB W o i B sb w v n d V)(X:0<B)(Y:i<B)(O:sb=B\/sb=B+14)(E H:Mx)(J I:Nat)(A C M y:Int)(G:ah (Free o w) w E 16 (V.id.map bv))(h:D=w.setCells v 3 (sM n E J A C M y H I).toList):
  eB W o i B sb D v n d ⟨V.b,V.c,V.M,V.cs,V.L,A,C,M,y,V.id⟩/\Step o (λ m=>m=B+19) w o D:=by
 have K:Keeps (λ b=>b=v) w D:=by rw[h];exact Keeps.setCells v _ 3 w
 have u:Step o (λ m=>m=B+19) w o D:=⟨λ _ _=>rfl,λ b Z S=>by have:=(z.marks.new b S).2;omega,K.mono λ b _ (e:b=v)=>by rw[e];exact z.own⟩;have F:¬(0=B+19):=by omega
 obtain⟨q,p,R,Q,N,P,k1,k2,k3,U⟩:=z.at_;refine⟨⟨⟨q,p,E,J,H,I,?_,k2.Az F (by omega) (by omega) (by omega) u,k3.step F (by omega) u,G.free F u⟩,z.own,Pd z.low K.size,z.disk.step (by omega) u⟩,u⟩;rw[h,yw v _ 3 w _ k1];unfold sM Z9;exact aaK (λ x=>some (Obj.cells x 62 (0,0))) (putC9 _ _ _ _ _ _ _ _ _ _ _ _ _ _ _ _ _ _ _ _ _)
theorem Y5{w:World}(C:eB W o i B sb w v n d V):w.there v 3 9:=λ j H=>by
 obtain⟨q,p,I,O,G,J,k1,k2,k3,N⟩:=C.at_;refine⟨?_,by simp[World.frozen?,k1]⟩;obtain⟨M,P,K,D,E,A,y,z,F,c9,u,m⟩:=kS k1;rcases (show j=0\/j=1\/j=2\/j=3\/j=4\/j=5\/j=6\/j=7\/j=8 by omega)with rfl|rfl|rfl|rfl|rfl|rfl|rfl|rfl|rfl
 ·exact aag.2 ⟨_,D⟩
 ·exact aag.2 ⟨_,E⟩
 ·exact aag.2 ⟨_,A⟩
 ·exact aag.2 ⟨_,y⟩
 ·exact aag.2 ⟨_,z⟩
 ·exact aag.2 ⟨_,F⟩
 ·exact aag.2 ⟨_,c9⟩
 ·exact aag.2 ⟨_,u⟩
 ·exact aag.2 ⟨_,m⟩
end
def Co(t:Int):dQ:=⟨mO,EI,t,λ _=>none⟩
theorem Y6(t:Int):(fU (Co t)).length=(fU nH).length:=by
 unfold fU;rw[List.length_append,List.length_append,List.length_append,List.length_append,List.length_append,List.length_append,ay,ay,ay];rfl
theorem Y7{n:Nat}{x:uD}{t:Int}(y:Ch n x)(m:x.state=fU (Co t))(u:((fU nH).length:Int)<=eT n)(z:Loads 1 (Co t)):UR n 1 x (Co t):=
 ⟨y,m,by rw[m,Y6];exact u,z⟩
def Rest(n:Nat)(id b:I8)(k:Nat)(head:I8)(next m t:Int):Prop:=
 b.length=n*128/\∃x y z A u,RF n b id 1 x y (Co A) (Co u)/\RG x y z (Co A) (Co u) (Co t)/\Last n b id z k/\x.gen%2=0/\y.gen%2=1/\z.gen=m/\z.head=head/\next=z.seq+1
theorem zu{n:Nat}{id b:I8}(h:YX n b id)(y:64<=n)(m:id.length=16)(u:((fU nH).length:Int)<=eT n):Rest n id b 0 (Aw id) 1 2 0:=
 ⟨h.len,NM id 2,NM id 1,NM id 2,0,0,⟨m,h.super,h.p0,h.p1,Y7 (FV n y id 2 (by omega) (by omega)) rfl u load0,Y7 (FV n y id 1 (by omega) (by omega)) rfl u load0⟩,.inl ⟨by show((1:Nat):Int)<=((2:Nat):Int);omega,rfl,rfl⟩,
  ⟨rfl,Nat.zero_le _,by show(0:Int)<1099511627776;omega,λ _=>⟨rfl,rfl⟩,λ i _ z=>h.zero i z⟩,rfl,rfl,rfl,rfl,rfl⟩
def Y8:iI:=⟨17,[],[],0,0,0,0,0,[]⟩
def KD:List UInt8:=[48,49,50,51,52,53,54,55,56,57,97,98,99,100,101,102]
structure Waits(next:Int)(l:List RecM)(m:Nat):Prop where
 few:l.length<=m
 recs:∀x∈l,wP x/\x.body.length<=11
 GU:∀(k:Nat) (x:RecM),l[k]? =some x->x.seq=next+(k:Int)
theorem Waits.one{next:Int}(h:0<=next/\next<=1099511627776):Waits next [⟨2,next,[]⟩] 1:=⟨Nat.le_refl _,λ x m=>by
 rw[List.mem_singleton]at m;subst m;exact⟨⟨.inr ⟨rfl,rfl⟩,h,Nat.zero_le _⟩,Nat.zero_le _⟩,λ k x m=>by
 cases k with
 |zero=>cases m;exact(Int.add_zero _).symm
 |succ k=>simp at m⟩
theorem Waits.nil{next:Int}:Waits next [] 0:=⟨Nat.le_refl _,λ x m=>(by cases m),λ k x m=>(by cases m)⟩
theorem Waits.mono{next:Int}{l:List RecM}{m k:Nat}(h:Waits next l m)(u:m<=k):Waits next l k:=⟨Nat.le_trans h.few u,h.recs,h.GU⟩
theorem size_le:∀(l:List RecM),(∀x∈l,wP x/\x.body.length<=11)->iC l<=26*l.length
 |[],_=>Nat.zero_le _
 |x::r,h=>by
  have u:=size_le r (λ y m=>h y (abv _ m));have z:=(h x List.mem_cons_self).2;unfold iC at u⊢;rw[aau,List.sum_cons,List.length_cons,og];omega
structure TkV(n:Nat)(V:oo)(t0 t:Int)(j m:Nat):Prop where
 mm:V.M=Co t
 id:V.id=KD
 cs:V.cs<=1+3*(j:Int)
 c:V.c<=10000+3000*(j:Int)
 tt:0<=t/\t<=1099511627776
 le:t0<=t
 rest:Rest n KD V.b V.L.sealed V.L.head V.L.next V.gen t0
 sealed:V.L.sealed<=j
 next:1<=V.L.next/\V.L.next<=1+100*(j:Int)
 gen:2<=V.gen/\V.gen<=2+(j:Int)
 wait:Waits V.L.next V.L.wait m
 head:V.L.head.length=32
theorem TkV.mono{n:Nat}{V:oo}{t0 t:Int}{j y m u:Nat}(h:TkV n V t0 t j m)(A:j<=y)(z:m<=u):TkV n V t0 t y u:=
 ⟨h.mm,h.id,by have:=h.cs;omega,by have:=h.c;omega,h.tt,h.le,h.rest,by have:=h.sealed;omega,⟨h.next.1,by have:=h.next.2;omega⟩,⟨h.gen.1,by have:=h.gen.2;omega⟩,h.wait.mono z,h.head⟩
theorem TkV.opened{n:Nat}{V:oo}{t0 t:Int}{j m:Nat}(h:TkV n V t0 t j m)(A:j<=60)(y:0<=t0)(u:Int):TkV n ⟨V.b,V.c,Co t0,1,⟨V.L.sealed,V.L.head,V.L.next,[⟨2,V.L.next,[]⟩]⟩,V.gen,u,V.L.sealed,0,KD⟩ t0 t0 j 1:=by
 have z:=h.next;exact⟨rfl,rfl,by show(1:Int)<=1+3*(j:Int);omega,h.c,⟨y,by have:=h.tt;have:=h.le;omega⟩,Int.le_refl _,h.rest,h.sealed,h.next,h.gen,Waits.one (next:=V.L.next) ⟨by omega,by omega⟩,h.head⟩
