/- package -/
import Derived.Test.YthillkfmdndedaaGreatDoorM29
set_option maxRecDepth 100000
set_option maxHeartbeats 64000000
set_option linter.all false
namespace Go.Proofs.YthillkfmdndedaaGreatDoor
open Go.ChangeShapes Go.WideShapes Go.ChangeAt Go.RowKit
section
variable{W w:World}{o:Mark}{i j k l n p:Nat}{M:dQ}{S:Nat->Prop}{cc m:Int}{pa bT:I8}{fd at_ nn aL sn:Int}{dt:I8}{da:Mx}{dc:Nat}
theorem sdo_k13(h:uj S W o i j k l n w p M cc ⟨13,pa,bT,fd,at_,nn,aL,sn,dt⟩ da dc m):
  Dy 21 #[ptr p,.agg (opC ⟨13,pa,bT,fd,at_,nn,aL,sn,dt⟩ da dc)] w (lV o i j k l n w p (dA M ⟨13,pa,bT,fd,at_,nn,aL,sn,dt⟩)):=by
 obtain⟨o1,w2,I,jo,R,h_,HX,HK,ak⟩:=h.pre;obtain⟨A,F,u,aA⟩:=wO M rfl h.paths;rw[F]at R;unfold opC eF eD at R;dsimp only[List.length_nil]at R jo;have N:=acp u;clear h F u;unfold opC;go_enter aaQ,aaL;go_wp2_with fail;refine R.o.mono ?_;clear R;intro e X G;obtain⟨b,C,c3,a0,U,rfl,HD,av,yu,zD,lC,g0,O⟩:=I.o.one G jo.o;dsimp only at g0 lC;clear G I jo;have D:=acp (HD.o.grow acu.drew);have t_:=D.o.marks;have yZ:=acp (zD.o.strs.below acu.drew acs);have u:dA M ⟨13,pa,bT,fd,at_,nn,aL,sn,dt⟩=JN (ng M A aL):=N.o;replace N:=acp u;clear u;have Z:=acp (T9 D.o.st t_ HK.o.mm h_.o.t.1 a0 A.length U A yZ.o zD.o.cap (by omega) (Ak h_.o.t.1 A) aL HX.o.wt (T_ h_.o.t.1 A));obtain⟨rr,Q⟩:∃rr,rr=ng M A aL:=⟨_,rfl⟩;rw[<-Q]at Z N;unfold JN at N;clear Q t_;have g6:X.cell? ⟨w.heap.size,6,none⟩=some (.int .u64 aL):=by simp[World.cell?,HD.o.op,opC]
 go_wp2_with fail;refine vJ 8 ((λ w'=>w'.cell? ⟨b,C,none⟩=some (.slice a0 A.length U)/\w'.cell? ⟨w.heap.size,6,none⟩=some (.int .u64 aL))) ?_ λ y=> ?_
 ·exact⟨O,g6⟩
 refine aO 0 y ?_;refine aO 1 y ?_;refine aO 2 y ?_;refine aO 3 y ?_;refine aO 4 y ?_;refine aO 5 y ?_;refine cu 6 λ K B=> ?_;go_simp;refine Z.o.mono ?_;rintro e H ⟨rfl,o4,z,pF⟩;have Y:=acp (D.o.turn z pF);have J:H.heap[b]? =X.heap[b]? :=D.o.stays z yu.o;have nG:H.heap[w.heap.size]? =X.heap[w.heap.size]? :=D.o.stays z D.o.opb;clear z pF Z;have P:acr ((λ w'=>w'.cell? ⟨b,C,none⟩=some (.slice a0 A.length U)/\w'.cell? ⟨w.heap.size,6,none⟩=some (.int .u64 aL)) H):=⟨(World.cell?_of_block J).trans O,(World.cell?_of_block nG).trans g6⟩;clear J nG;go_wp2_with fail;refine b_ B (P.o) λ y=> ?_;clear B K;refine cu 7 λ K B=> ?_;go_simp;refine(g_ _ _).mono ?_;rintro e w9 ⟨rfl,V⟩;unfold AU;have Al:=acp (Y.o.grow V);have GN:acr ((λ w'=>w'.cell? ⟨b,C,none⟩=some (.slice a0 A.length U)/\w'.cell? ⟨w.heap.size,6,none⟩=some (.int .u64 aL)) w9):=⟨(V.cell (aal H _ P.o.1)).trans P.o.1,(V.cell (aal H _ P.o.2)).trans P.o.2⟩;clear V;go_wp2_with fail;refine b_ B (GN.o) λ y=> ?_;clear B K;refine cu 8 λ K B=> ?_;refine bL rfl 38 _ _ rfl (w.heap.size+1) (eF (eD (rr.1)) none none 0 0) rfl rfl _ Al.o.re bC rfl (bE _ _ _ _ _) ?_;intro w5 E;have gL:=acp E;clear E;refine o_ B ?_;clear y B K;go_wp2_with fail;exact bI rfl rfl rfl gL.o.1 (by rw[N.o];exact Al.o.Dr gL.o rfl rfl)
theorem sdo_k14(h:uj S W o i j k l n w p M cc ⟨14,pa,bT,fd,at_,nn,aL,sn,dt⟩ da dc m):
  Dy 21 #[ptr p,.agg (opC ⟨14,pa,bT,fd,at_,nn,aL,sn,dt⟩ da dc)] w (lV o i j k l n w p (dA M ⟨14,pa,bT,fd,at_,nn,aL,sn,dt⟩)):=by
 obtain⟨o1,w2,I,V,N,H,HX,HK,ak⟩:=h.pre;have z:fE ⟨14,pa,bT,fd,at_,nn,aL,sn,dt⟩=([],0):=rfl;have y:=um M z;rw[z]at N;unfold opC eF eD at N;dsimp only[List.length_nil]at N V;have Q:=acp y;clear h z y;unfold opC;go_enter aaQ,aaL;go_wp2_with fail;refine N.o.mono ?_;clear N;intro e O F;obtain⟨a3,c3,rfl,HD,av,lC,g0⟩:=I.o.none_ F V.o;dsimp only at g0 lC;clear F I V;have ni:=acp (HD.o.grow acu.drew);have Z:=ni.o.marks;obtain⟨t,s,z0,z1,z2,Dl,Gf,E⟩:=ni.o.callS;have Pz:O.cell? ⟨p,0,none⟩=some (ptr t):=z0;have G:O.cell? ⟨p,1,none⟩=some (ptr s):=z1;have aA:O.cell? ⟨p,2,none⟩=some (.int .u64 M.now):=z2;have X:=acp E;have y:dA M ⟨14,pa,bT,fd,at_,nn,aL,sn,dt⟩=(⟨(jk M.s M.t).1.2,(jk M.s M.t).1.1,[],[],none⟩,M.sn (jk M.s M.t).2):=Q.o;replace Q:=acp y;clear y;have R:=acp (XA Gf Dl Z HK.o.mm.ne.1 H.o.t.1 H.o.s.few H.o.s.last H.o.next.1 (by have:=H.o.next.2;omega));obtain⟨P,J⟩:∃P,P=jk M.s M.t:=⟨_,rfl⟩;rw[<-J]at R Q;clear J E Dl Gf Z z0 z1 z2;go_wp2_with fail;refine su ((λ w'=>w'.cell? ⟨p,0,none⟩=some (ptr t)/\w'.cell? ⟨p,1,none⟩=some (ptr s))) ?_ λ u=> ?_
 ·exact⟨Pz,G⟩
 refine aM 0 u ?_;refine aM 1 u ?_;refine aM 2 u ?_;refine aM 3 u ?_;refine aM 4 u ?_;refine aM 5 u ?_;refine aM 6 u ?_;refine aM 7 u ?_;refine lJ 8 λ K hK=> ?_;go_simp;refine R.o.mono ?_;rintro e w4 ⟨rfl,o4,C,pF⟩;obtain⟨D,Y⟩:=X.o _ _ _ C pF;have B:=acp D;have U:w4.heap[p]? =O.heap[p]? :=Y;clear D C pF Y R;have jl:acr ((λ w'=>w'.cell? ⟨p,0,none⟩=some (ptr t)/\w'.cell? ⟨p,1,none⟩=some (ptr s)) w4):=⟨(World.cell?_of_block U).trans Pz,(World.cell?_of_block U).trans G⟩;clear U;go_wp2_with fail;refine kV hK (jl.o) λ u=> ?_;clear hK K;refine aM 9 u ?_;refine aM 10 u ?_;refine aM 11 u ?_;refine aM 12 u ?_;refine aM 13 u ?_;refine rH ?_;go_wp2_with (refine aj (by rfl) 38 _ _ (by rfl) (w.heap.size+1) (eF ⟨P.1.2,P.1.1,[],[],none⟩ none none 0 0) (by rfl) (by rfl) _ B.o.re bC rfl (bE _ _ _ _ _) ?_;intro w5 A;have gL:=acp A;clear A);exact bI rfl rfl rfl gL.o.1 (by rw[Q.o];exact B.o.Dr gL.o rfl rfl)
theorem sdo_k15(h:uj S W o i j k l n w p M cc ⟨15,pa,bT,fd,at_,nn,aL,sn,dt⟩ da dc m):
  Dy 21 #[ptr p,.agg (opC ⟨15,pa,bT,fd,at_,nn,aL,sn,dt⟩ da dc)] w (lV o i j k l n w p (dA M ⟨15,pa,bT,fd,at_,nn,aL,sn,dt⟩)):=by
 obtain⟨o1,w2,I,jo,N,h_,HX,HK,aA⟩:=h.pre;have B:fE ⟨15,pa,bT,fd,at_,nn,aL,sn,dt⟩=([],0):=rfl;have y:=um M B;rw[B]at N;unfold opC eF eD at N;dsimp only[List.length_nil]at N jo;have X:=acp y;clear h B y;unfold opC;go_enter aaQ,aaL;go_wp2_with fail;refine N.o.mono ?_;clear N;intro e E Q;obtain⟨a3,c3,rfl,HD,av,lC,g0⟩:=I.o.none_ Q jo.o;dsimp only at g0 lC;clear Q I jo;have V:=acp (HD.o.grow acu.drew);have t_:=V.o.marks;obtain⟨t,s,z0,z1,z2,Dl,Gf,H⟩:=V.o.callS;have Pz:E.cell? ⟨p,0,none⟩=some (ptr t):=z0;have R:E.cell? ⟨p,1,none⟩=some (ptr s):=z1;have P:E.cell? ⟨p,2,none⟩=some (.int .u64 M.now):=z2;have ak:=acp H;have y:dA M ⟨15,pa,bT,fd,at_,nn,aL,sn,dt⟩=(eD (gX M.s sn M.now).1,M.sn (gX M.s sn M.now).2):=X.o;replace X:=acp y;clear y;have HC:=acp (Po Gf t_ HK.o.mm.ne.1 h_.o.s.few sn M.now);clear H Dl Gf t_ z0 z1 z2;have g7:E.cell? ⟨w.heap.size,7,none⟩=some (.int .i64 sn):=by simp[World.cell?,HD.o.op,opC]
 go_wp2_with fail;refine vJ 12 ((λ w'=>w'.cell? ⟨p,1,none⟩=some (ptr s)/\w'.cell? ⟨p,2,none⟩=some (.int .u64 M.now)/\w'.cell? ⟨w.heap.size,7,none⟩=some (.int .i64 sn))) ?_ λ u=> ?_
 ·exact⟨R,P,g7⟩
 refine aO 0 u ?_;refine aO 1 u ?_;refine aO 2 u ?_;refine aO 3 u ?_;refine aO 4 u ?_;refine aO 5 u ?_;refine aO 6 u ?_;refine aO 7 u ?_;refine aO 8 u ?_;refine aO 9 u ?_;refine cu 10 λ K z=> ?_;go_simp;refine HC.o.mono ?_;rintro e D ⟨er,S4,o4,rfl,F,A,pF⟩;have J:=F.eq;obtain⟨G,AP⟩:=ak.o _ _ _ A pF;have Y:=acp G;have Z:D.heap[p]? =E.heap[p]? :=AP;have nG:D.heap[w.heap.size]? =E.heap[w.heap.size]? :=V.o.stays (A.mono λ m hm=> .inl hm) V.o.opb;rw[J]at X;clear G A pF AP HC F J;have C:acr ((λ w'=>w'.cell? ⟨p,1,none⟩=some (ptr s)/\w'.cell? ⟨p,2,none⟩=some (.int .u64 M.now)/\w'.cell? ⟨w.heap.size,7,none⟩=some (.int .i64 sn)) D):=⟨(World.cell?_of_block Z).trans R,(World.cell?_of_block Z).trans P,(World.cell?_of_block nG).trans g7⟩;clear Z nG;go_wp2_with fail;refine b_ z (C.o) λ u=> ?_;clear z K;refine cu 11 λ K z=> ?_;go_simp;refine(g_ _ _).mono ?_;rintro e w9 ⟨rfl,U⟩;unfold AU;have Al:=acp (Y.o.grow U);have GN:acr ((λ w'=>w'.cell? ⟨p,1,none⟩=some (ptr s)/\w'.cell? ⟨p,2,none⟩=some (.int .u64 M.now)/\w'.cell? ⟨w.heap.size,7,none⟩=some (.int .i64 sn)) w9):=⟨(U.cell (aal D _ C.o.1)).trans C.o.1,(U.cell (aal D _ C.o.2.1)).trans C.o.2.1,(U.cell (aal D _ C.o.2.2)).trans C.o.2.2⟩;clear U;go_wp2_with fail;refine b_ z (GN.o) λ u=> ?_;clear z K;refine cu 12 λ K z=> ?_;refine bL rfl 38 _ _ rfl (w.heap.size+1) (eF (eD er) none none 0 0) rfl rfl _ Al.o.re bC rfl (bE _ _ _ _ _) ?_;intro w5 O;have gL:=acp O;clear O;refine o_ z ?_;clear u z K;go_wp2_with fail;exact bI rfl rfl rfl gL.o.1 (by rw[X.o];exact Al.o.Dr gL.o rfl rfl)
theorem sdo_k16(h:uj S W o i j k l n w p M cc ⟨16,pa,bT,fd,at_,nn,aL,sn,dt⟩ da dc m):
  Dy 21 #[ptr p,.agg (opC ⟨16,pa,bT,fd,at_,nn,aL,sn,dt⟩ da dc)] w (lV o i j k l n w p (dA M ⟨16,pa,bT,fd,at_,nn,aL,sn,dt⟩)):=by
 obtain⟨o1,w2,G,Q,H,h_,HX,HK,ak⟩:=h.pre;have A:fE ⟨16,pa,bT,fd,at_,nn,aL,sn,dt⟩=([],0):=rfl;have y:=um M A;rw[A]at H;unfold opC eF eD at H;dsimp only[List.length_nil]at H Q;have P:=acp y;clear h A y;unfold opC;go_enter aaQ,aaL;go_wp2_with fail;refine H.o.mono ?_;clear H;intro e I F;obtain⟨a3,c3,rfl,U,av,lC,g0⟩:=G.o.none_ F Q.o;dsimp only at g0 lC;clear F G Q;have J:=acp (U.o.grow acu.drew);have t_:=J.o.marks;have y:dA M ⟨16,pa,bT,fd,at_,nn,aL,sn,dt⟩=(eD 0,{M with now:=sH M.now aL}):=P.o;replace P:=acp y;clear y;obtain⟨Z,z3,z⟩:=J.o.clock (sH M.now aL);have N:I.cell? ⟨p,2,none⟩=some (.int .u64 M.now):=Z;have O:I.frozen? ⟨p,2,none⟩=false:=z3;have E:=Um M.now aL I.drew;have Y:=acp E;clear t_ E Z z3 z;have X:I.cell? ⟨w.heap.size,6,none⟩=some (.int .u64 aL):=by simp[World.cell?,U.o.op,opC]
 go_wp2_with fail;refine vJ 10 ((λ w'=>w'.cell? ⟨p,2,none⟩=some (.int .u64 M.now)/\w'.frozen? ⟨p,2,none⟩=false/\w'.cell? ⟨w.heap.size,6,none⟩=some (.int .u64 aL))) ?_ λ u=> ?_
 ·exact⟨N,O,X⟩
 refine aO 0 u ?_;refine aO 1 u ?_;refine aO 2 u ?_;refine aO 3 u ?_;refine aO 4 u ?_;refine aO 5 u ?_;refine aO 6 u ?_;refine cu 7 λ K D=> ?_;go_simp;refine Y.o.mono ?_;rintro e w4 ⟨rfl,B⟩;have NW:=acp (J.o.grow B);obtain⟨y2,y3,z⟩:=NW.o.clock (sH M.now aL);have V:=acp z;have jl:acr ((λ w'=>w'.cell? ⟨p,2,none⟩=some (.int .u64 M.now)/\w'.frozen? ⟨p,2,none⟩=false/\w'.cell? ⟨w.heap.size,6,none⟩=some (.int .u64 aL)) w4):=⟨y2,y3,(B.cell (p:=⟨w.heap.size,6,none⟩) J.o.opb.2).trans X⟩;clear B Y z y2 y3;go_wp2_with fail;refine b_ D (jl.o) λ u=> ?_;clear D K;refine aO 8 u ?_;refine aO 9 u ?_;refine cu 10 λ K D=> ?_;go_simp;refine o_ D ?_;clear u D K;go_wp2_with (refine aj (by rfl) 38 _ _ (by rfl) (w.heap.size+1) (eF (eD 0) none none 0 0) (by rfl) (by rfl) _ V.o.re bC rfl (bE _ _ _ _ _) ?_;intro w5 C;have R:=acp C;clear C);exact bI rfl rfl rfl R.o.1 (by rw[P.o];exact V.o.Dr R.o rfl rfl)
theorem sdo_k17(h:uj S W o i j k l n w p M cc ⟨17,pa,bT,fd,at_,nn,aL,sn,dt⟩ da dc m):
  Dy 21 #[ptr p,.agg (opC ⟨17,pa,bT,fd,at_,nn,aL,sn,dt⟩ da dc)] w (lV o i j k l n w p (dA M ⟨17,pa,bT,fd,at_,nn,aL,sn,dt⟩)):=by
 obtain⟨Q,N,A,E,B,P,U,X,H⟩:=h.pre;have y:fE ⟨17,pa,bT,fd,at_,nn,aL,sn,dt⟩=([],0):=rfl;have u:=um M y;rw[y]at B;unfold opC eF eD at B;dsimp only[List.length_nil]at B E;have D:=acp u;clear h y u;unfold opC;go_enter aaQ,aaL;go_wp2_with fail;refine B.o.mono ?_;clear B;intro e O C;obtain⟨a3,R,rfl,G,I,K,J⟩:=A.o.none_ C E.o;dsimp only at J K;clear C A E;have u:dA M ⟨17,pa,bT,fd,at_,nn,aL,sn,dt⟩=(eD 0,M):=D.o;replace D:=acp u;clear u;go_wp2_with (refine aj (by rfl) 38 _ _ (by rfl) (w.heap.size+1) (eF (eD 0) none none 0 0) (by rfl) (by rfl) _ G.o.re bC rfl (bE _ _ _ _ _) ?_;intro V z;have F:=acp z;clear z);exact bI rfl rfl rfl F.o.1 (by rw[D.o];exact G.o.Dr F.o rfl rfl)
end
section
variable{W w:World}{o:Mark}{i j k l n p:Nat}{M:dQ}
theorem sdo_bad(Q:bP o i j k w p M)(U:Marks W o w)(V:Mk5 i j k l n)(x:iI)(X:wM x)(D:Mx)(C:Nat)(m:Int)(P:w.cell? ⟨2,0,none⟩=some (.int .i64 m))(E:(fE x).2≠0):
  Dy 21 #[ptr p,.agg (opC x D C)] w (lV o i j k l n w p (dA M x)):=by
 have u:dA M x=(eD (fE x).2,M):=if_pos E;obtain⟨o1,A⟩:=jF.start V Q U x D C;have y:Below w.heap.size w ((w.alloc (.cells (opC x D C) 32)).alloc (.cells (eF (eD 0) none none 0 0) 38)):=(wall w _).trans ((wall _ _).mono (by simp));obtain⟨J,B⟩:∃J,J=(w.alloc (.cells (opC x D C) 32)).alloc (.cells (eF (eD 0) none none 0 0) 38):=⟨_,rfl⟩;rw[<-B]at A y;have H:J.cell? ⟨2,0,none⟩=some (.int .i64 m):=(y.cell (p:=⟨2,0,none⟩) (aal w _ P)).trans P;have z:=IC p J x D C X m H;obtain⟨ps,F,N⟩:∃ps F,fE x=(ps,F):=⟨_,_,rfl⟩;rw[N]at z u E;have E:F≠0:=E;have ak:(F !=0)=true:=by simpa using E
 have O:acr (Dy 54 #[ptr p,.agg (opC x D C)] ((w.alloc (.cells (opC x D C) 32)).alloc (.cells (eF (eD 0) none none 0 0) 38)) (fu J (ps,F))):=by rw[<-B];exact acp z
 unfold opC eF eD at O;dsimp only[List.length_nil]at O;have iT:=acp u;have K:=acp A;clear Q U V X P E u A y H z B N;unfold opC;go_enter aaQ,aaL;go_wp2_with fail;refine O.o.mono ?_;clear O;rintro e w3 ⟨a3,n3,c3,vs,rfl,-,-,-,-,I⟩;have Z:=acp (K.o.grow I);clear I K;go_wp2_with fail;refine(g_ _ _).mono ?_;rintro e w9 ⟨rfl,Y⟩;unfold AU;have R:=acp (Z.o.grow Y);clear Y;go_wp2_with (refine aj (by rfl) 38 _ _ (by rfl) (w.heap.size+1) (eF (eD F) none none 0 0) (by rfl) (by rfl) _ R.o.re bC rfl (bE _ _ _ _ _) ?_;intro w5 G;have S:=acp G;clear G);exact bI rfl rfl rfl S.o.1 (by rw[iT.o];exact R.o.Dr S.o rfl rfl)
theorem sdo_any{S:Nat->Prop}(E:bP o i j k w p M)(G:Marks W o w)(C:Mk5 i j k l n)(I:Int)(y:iJ I M)(u:I<=1000000000)(x:iI)(D:wM x)(H:Mx)(J:Nat)(z:ah S w H x.data.length (x.data.map bv))(m:Int)(F:w.cell? ⟨2,0,none⟩=some (.int .i64 m)):
  Dy 21 #[ptr p,.agg (opC x H J)] w (lV o i j k l n w p (dA M x)):=by
 by_cases A:(fE x).2=0
 ·have K:1<=x.kind/\x.kind<=17:=by
   unfold fE at A;split at A
   ·assumption
   ·simp at A
  obtain⟨B,N,P,V,at_,R,O,sn,Q⟩:=x;have U:1<=B/\B<=17:=K;rcases (show B=1\/B=2\/B=3\/B=4\/B=5\/B=6\/B=7\/B=8\/B=9\/B=10\/B=11\/B=12\/B=13\/B=14\/B=15\/B=16\/B=17 by omega)with rfl|rfl|rfl|rfl|rfl|rfl|rfl|rfl|rfl|rfl|rfl|rfl|rfl|rfl|rfl|rfl|rfl
  ·exact sdo_k1 ⟨E,G,C,y,u,D,z,F,A⟩
  ·exact sdo_k2 ⟨E,G,C,y,u,D,z,F,A⟩
  ·exact sdo_k3 ⟨E,G,C,y,u,D,z,F,A⟩
  ·exact sdo_k4 ⟨E,G,C,y,u,D,z,F,A⟩
  ·exact sdo_k5 ⟨E,G,C,y,u,D,z,F,A⟩
  ·exact sdo_k6 ⟨E,G,C,y,u,D,z,F,A⟩
  ·exact sdo_k7 ⟨E,G,C,y,u,D,z,F,A⟩
  ·exact sdo_k8 ⟨E,G,C,y,u,D,z,F,A⟩
  ·exact sdo_k9 ⟨E,G,C,y,u,D,z,F,A⟩
  ·exact sdo_k10 ⟨E,G,C,y,u,D,z,F,A⟩
  ·exact sdo_k11 ⟨E,G,C,y,u,D,z,F,A⟩
  ·exact sdo_k12 ⟨E,G,C,y,u,D,z,F,A⟩
  ·exact sdo_k13 ⟨E,G,C,y,u,D,z,F,A⟩
  ·exact sdo_k14 ⟨E,G,C,y,u,D,z,F,A⟩
  ·exact sdo_k15 ⟨E,G,C,y,u,D,z,F,A⟩
  ·exact sdo_k16 ⟨E,G,C,y,u,D,z,F,A⟩
  ·exact sdo_k17 ⟨E,G,C,y,u,D,z,F,A⟩
 ·exact sdo_bad E G C x D H J m F A
end
theorem JQ(W w:World)(o:Mark)(F:Marks W o w)(j:Nat):Dy 97 #[] w λ e w'=>∃p u,e= .returned (ptr p)/\Step o (λ k=>k=j) w u w'/\dW u j w' p mO/\Below w.heap.size w w':=by
 refine(new_any w).mono ?_;rintro e w' ⟨g,B,C,nb,p,rfl,z,D,y⟩;obtain⟨u,A,E,G⟩:=cK F j (λ b=>g b≠ .none) (w':=w') (λ b m=>⟨D b m,z.low b m⟩) y;exact⟨p,u,rfl,A,⟨g,_,B,C,nb,z,λ b m=>E b m,λ b m=>m.elim⟩,y⟩
theorem X8(W w:World)(o:Mark)(Q:Marks W o w){i j k l:Nat}(R:Mk i j k l):Dy 37 #[] w λ e w'=>∃p P,e= .returned (ptr p)/\Step o (λ m=>m=i\/m=j\/m=k\/m=l) w P w'/\bP P i j k w' p nH/\Below w.heap.size w w':=by
 obtain⟨U,n2,n3,n4,Y,Z,n7,n8,n9,ak⟩:=R.ne;have V:=acp Q;clear Q R;go_enter Tryz.func37,Tryz.ntmps37;go_wp2_with fail;refine(JQ W w o V.o j).mono ?_;rintro e w1 ⟨t,o1,rfl,z,E,F⟩;have S:=acp (V.o.step (λ e=>n2 e.symm) z);have mo:=acp z;have M:=acp E;have I:=acp F;clear z E F;go_wp2_with fail;refine(Tm S.o i U).mono ?_;rintro e y ⟨s,o2,rfl,u,K,C⟩;have H:¬(λ m=>m=i) 0:=λ e=>U e.symm;have G:¬(λ m=>m=k) 0:=λ e=>n3 e.symm;have tF:=acp (S.o.step H u);have N:=acp (M.o.step H (λ e=>Y e.symm) u);have O:=acp u;have X:=acp K;have J:=acp C;clear u K C;go_wp2_with fail;go_ret;have D:Below y.heap.size y (y.alloc (.cells (Dq t s 0 λ _=> .pointer none) 110)):=wall y _;obtain⟨o3,A,h1,h2⟩:=cK tF.o k (λ b=>b=y.heap.size) (w':=y.alloc (.cells (Dq t s 0 λ _=> .pointer none) 110)) (λ b hb=>by subst hb;exact⟨Nat.le_refl _,by simp⟩) D;exact⟨y.heap.size,o3,rfl,((mo.o.mono λ m B=> .inr (.inl B)).trans (O.o.mono λ m B=> .inl B)).trans (A.mono λ m B=> .inr (.inr (.inl B))),⟨⟨t,s,λ _=> .pointer none,(MapKept.heap_alloc y _).1,X.o.step G Z A,N.o.step G n8 A,λ n hn=>rfl⟩,h1 _ rfl,by simp⟩,I.o.trans ((J.o.trans (D.mono J.o.size)).mono I.o.size)⟩
abbrev Five(i:Nat):Nat->Prop:=λ m=>i<=m/\m<=i+4
structure vo(W:World)(o:Mark)(i:Nat)(w:World)(p:Nat)(c:Int)(M:dQ):Prop where
 st:bP o i (i+1) (i+2) w p M
 marks:Marks W o w
 ok:iJ c M
theorem mk5{i:Nat}(m:0<i):Mk5 i (i+1) (i+2) (i+3) (i+4):=⟨⟨by omega⟩,by omega⟩
section
variable{W w w':World}{o o':Mark}{i p:Nat}{c:Int}{M:dQ}
theorem vo.grow(h:vo W o i w p c M)(m:Below w.heap.size w w'):vo W o i w' p c M:=⟨h.st.grow h.marks m,h.marks.grow m,h.ok⟩
theorem vo.below(h:vo W o i w p c M):Below W.heap.size W w:=h.marks.below
theorem vo.mono{d:Int}(h:vo W o i w p c M)(m:c<=d):vo W o i w p d M:=⟨h.st,h.marks,h.ok.mono m⟩
theorem vo.other{j:Nat}(h:vo W o i w p c M)(z:0<i)(y:0<j)(u:i+4<j\/j+4<i)(m:Step o (Five j) w o' w'):vo W o' i w' p c M:=
 ⟨h.st.step (λ e=>by have:=e.1;omega) (λ e=>by have:=e.1;have:=e.2;omega) (λ e=>by have:=e.1;have:=e.2;omega) (λ e=>by have:=e.1;have:=e.2;omega) m,h.marks.step (λ e=>by have:=e.1;omega) m,h.ok⟩
theorem pR{i m:Nat}(h:m=i\/m=i+1\/m=i+2\/m=i+3\/m=i+4):Five i m:=⟨by omega,by omega⟩
theorem st_new(y:Marks W o w)(B:0<i):Dy 37 #[] w λ e w'=>∃p o',e= .returned (ptr p)/\Step o (Five i) w o' w'/\vo W o' i w' p 1 nH:=by
 refine(X8 W w o y (mk5 B).mm).mono ?_;rintro e w' ⟨p,o',rfl,z,A,D⟩;have u:Step o (Five i) w o' w':=z.mono λ m C=>pR (by omega);exact⟨p,o',rfl,u,⟨A,y.step (λ e=>by have:=e.1;omega) u,iJ.new⟩⟩
def DoW(W:World)(o:Mark)(i:Nat)(w:World)(p:Nat)(c:Int)(M:dQ)(x:iI)(e:Ending)(w':World):Prop:=
 ∃o',BJ o' (dA M x).1 e w'/\Step o (Five i) w o' w'/\vo W o' i w' p (c+1) (dA M x).2
theorem st_do{S:Nat->Prop}(h:vo W o i w p c M)(I:0<i)(F:c<=1000000000)(x:iI)(C:wM x)(B:Mx)(D:Nat)(A:ah S w B x.data.length (x.data.map bv))(m:Int)(y:W.cell? ⟨2,0,none⟩=some (.int .i64 m)):
  Dy 21 #[ptr p,.agg (opC x B D)] w (DoW W o i w p c M x):=by
 have z:w.cell? ⟨2,0,none⟩=some (.int .i64 m):=(h.marks.below.cell (p:=⟨2,0,none⟩) (aal W _ y)).trans y;refine(sdo_any h.st h.marks (mk5 I) c h.ok F x C B D A m z).mono ?_;rintro e w' ⟨o',H,G,E⟩;have u:Step o (Five i) w o' w':=G.mono λ m y=>pR y;exact⟨o',H,u,⟨E,h.marks.step (λ e=>by have:=e.1;omega) u,h.ok.do_ x C⟩⟩
end
theorem X9(W:World):Marks W (λ _=>0) W:=⟨λ b m=>absurd rfl m,Below.refl _ _⟩
theorem PD{x:iI}(u:0<=x.kind/\x.kind<=1000)(B:0<=x.fd/\x.fd<=1000)(wa:0<=x.at_/\x.at_<=1000000)(y:0<=x.n/\x.n<=1000000)(A:0<=x.snap/\x.snap<=1000000)(m:0<=x.aL/\x.aL<=18446744073709551615)(z:x.path.length<=1000)(C:x.bT.length<=1000)(D:x.data.length<=1000000):wM x:=
 ⟨gG (by omega) (by omega),gG (by omega) (by omega),gG (by omega) (by omega),gG (by omega) (by omega),gG (by omega) (by omega),m,by omega,by omega,by omega⟩
def fU(M:dQ):List UInt8:=bF M.now 8++bF (iA (bX M.t)).length 8++iA (bX M.t)++j_ M.s
def qz(S:qJ):Prop:=∀x∈S.l,(0<=x.id/\x.id<=S.next)/\x.hash.length<=64
theorem qz.new:qz EI:=λ x m=>by cases m
theorem qz.take{S:qJ}(h:qz S)(u:0<=S.next)(T:aS):qz (jk S T).2:=by
 unfold jk;split
 ·exact h
 ·intro x m;rcases aaA.1 m with m|m
  ·have:=h x m;exact⟨⟨this.1.1,by have:=this.1.2;show x.id<=S.next+1;omega⟩,this.2⟩
  ·rw[List.mem_singleton.1 m];exact⟨⟨u,by show S.next<=S.next+1;omega⟩,Rm _⟩
theorem qz.forget{S:qJ}(h:qz S)(id now:Int):qz (gX S id now).2:=by
 rcases yQ S id now with e|⟨k,e⟩
 ·rw[e];exact h
 ·rw[e];intro x m;rcases aaA.1 (show x∈S.l.take k++S.l.drop (k+1)from m)with m|m
  ·exact h x (aaN m)
  ·exact h x (abx m)
theorem qz.do_{M:dQ}(h:qz M.s)(B:0<=M.s.next)(x:iI):qz (dA M x).2.s:=by
 have A:=sdo_chg M x;generalize (dA M x).2=H at A⊢;cases A with
 |take=>exact h.take B _
 |forget=>exact h.forget _ _
 |tick D=>exact h
 |same=>exact h
 |make u kind=>exact h
 |create u m z=>exact h
 |opens T u y m z C E G F=>exact h
 |write f m=>exact h
 |closes f m z C=>exact h
 |shut f m z=>exact h
 |link p q=>exact h
 |unlink u m z=>exact h
 |rmdir u=>exact h
 |rename p q=>exact h
 |keep u m=>exact h
theorem iJ.sv{c:Int}{M:dQ}(h:iJ c M)(y:c<=1000000000)(u:qz M.s):O8 M.s:=
 ⟨h.s.few,h.s.last,⟨h.next.1,by have:=h.next.2;omega⟩,λ x m=>by have:=u x m;have:=h.next.2;exact⟨⟨by omega,by omega⟩,by omega⟩⟩
theorem PE{o:Mark}{i:Nat}{w:World}{s:Nat}{S:qJ}(z:jD o i w s S)(m:O8 S):(j_ S).length<=50001000:=by
 obtain⟨v,F,H,u,G,D,J,C,I,A,B,E⟩:=z.at_;have:=ET A λ x y=>(m.each x y).2;have:=m.few;have:=m.last;unfold j_;simp only[List.length_append,ay,vX];omega
section
variable{W w:World}{o:Mark}{i j k p:Nat}{M:dQ}{c:Int}
theorem E_(hS:bP o i j k w p M)(hM:Marks W o w)(z:iJ c M)(hv:O8 M.s):Dy 38 #[ptr p] w (gH w (fU M)):=by
 obtain⟨t,s,v,h1,h2,h3,h4⟩:=hS.at_;have Y:=hS.low;have HC:=acp (rJ h3 hM z.t.1);have HM:=acp hM;have IE:=acp h2;have HV:=acp hv;have h_:=acp z.t.1.bX;have Dt:=z.now;have N:acr (∀w',Below w.heap.size w w'->w'.cell? ⟨p,0,none⟩=some (ptr t)/\w'.cell? ⟨p,1,none⟩=some (ptr s)/\w'.cell? ⟨p,2,none⟩=some (.int .u64 M.now)):=λ w' Z=>by
  obtain⟨z0,z1,z2,-⟩:=gV ((Z.block p Y).trans h1);exact⟨z0,z1,z2⟩
 obtain⟨c0,c1,c2⟩:=N.o w acu;clear hS hM z hv h1 h2 h3 h4;go_enter Tryz.func38,Tryz.ntmps38;go_wp2_with fail;refine HC.o.mono ?_;rintro e w1 ⟨q,rfl,hT,ak⟩;have HT:=acp hT;have aA:=acp ak;clear hT ak HC;go_wp2_with fail;refine(JF HT.o h_.o).mono ?_;rintro e w2 ⟨ba,bn,bc,rfl,bD,y,R⟩;have aB:=CS h_.o;obtain⟨C,hC⟩:∃C,C=iA (bX M.t):=⟨_,rfl⟩;rw[<-hC]at y aB;have aD:=acp hC;have aN:bn=C.length:=by have:=y.length;simpa using this.symm
 subst aN;have AQ:=acp y;have sJ:=aA.o.trans (R.mono aA.o.size);have m:=acp sJ;obtain⟨d0,d1,d2⟩:=N.o w2 sJ;clear y R sJ hC c0 c1 c2;go_wp2_with fail;refine(fG _).mono ?_;rintro e w3 ⟨rfl,U,G⟩;have H:=acp U;have aJ:=acp G;have Gy:=m.o.trans (G.mono m.o.size);obtain⟨e0,e1,e2⟩:=N.o w3 Gy;clear U G Gy d0 d1 d2;go_wp2_with fail;refine(jB H.o M.now Dt.1 (by omega) (by simp)).mono ?_;intro e w4 O;obtain⟨rfl,x4,OP,K⟩:=dx.more H.o aJ.o O;have zQ:=acp OP;have dI:=acp K;have E:=m.o.trans (K.mono m.o.size);obtain⟨f0,f1,f2⟩:=N.o w4 E;have aC:=DU (C.length:Int) (by omega) (by omega);clear O OP K E e0 e1 e2 H;go_wp2_with fail;refine(jB zQ.o (C.length:Int) (by omega) (by omega) (by simp[ay])).mono ?_;intro e w5 Q;obtain⟨rfl,x5,Rp,u⟩:=dx.more zQ.o dI.o Q;have xS:=acp Rp;have dK:=acp u;have B:=m.o.trans (u.mono m.o.size);obtain⟨g0,g1,g2⟩:=N.o w5 B;have A:=AQ.o.kept u.size (λ b Z _=>u.block b Z.2);clear Q Rp u B f0 f1 f2 zQ aC;go_wp2_with fail;refine(gZ xS.o ba C.length bc C A (by simp[ay]) (by omega)).mono ?_;intro e w6 X;obtain⟨rfl,x6,NG,J⟩:=dx.more xS.o dK.o X;have Bq:=acp NG;have nP:=acp J;have V:=m.o.trans (J.mono m.o.size);have bq:=acp V;obtain⟨k0,k1,k2⟩:=N.o w6 V;have D:=acp (IE.o.step (I:=λ _=>False) (λ e=>e) (λ e=>e) (Step.grow HM.o V));have BD:=acp (HM.o.grow V);have bT:=PE D.o HV.o;clear X NG J V g0 g1 g2 xS A;go_wp2_with fail;refine(TG D.o BD.o HV.o).mono ?_;rintro e w7 ⟨sa,sn,sc,rfl,bS,F,jG⟩;have aH:=acp F;have CG:=acp (Bq.o.below jG);have nE:=acp (nP.o.trans (jG.mono nP.o.size));have S:sn=(j_ M.s).length:=by have:=F.length;simpa using this.symm
 subst S;clear F jG Bq;go_wp2_with fail;refine(gZ CG.o sa (j_ M.s).length sc (j_ M.s) aH.o (by simp[ay];omega) (by omega)).mono ?_;intro e w8 P;obtain⟨rfl,x8,Vy,jw⟩:=dx.more CG.o nE.o P;have Gv:=acp Vy;have qY:=acp jw;clear P Vy jw CG;go_wp2_with fail;refine(iZ Gv.o (by simp[ay];omega)).mono ?_;rintro e w9 ⟨ra,rn,rc,rfl,aF,av,dG⟩;have bf:=acp av;have pK:=acp dG;clear av dG;go_wp2_with fail;go_ret;have aL:=m.o.size;have vV:=qY.o.size;refine⟨ra,rn,rc,rfl,aF,?_,(m.o.trans (qY.o.mono aL)).trans (pK.o.mono (by omega))⟩;have e:[]++bF M.now 8++bF (C.length:Int) 8++C++j_ M.s=fU M:=by
  rw[aD.o];unfold fU;simp
 have h9:=bf.o;rw[e]at h9;exact h9.mono λ b Z=>⟨by omega,Z.2⟩
end
theorem PG{S:aS}{id j:Int}(h:j≠id):lF (fJ S id).2 j=lF S j:=by
 unfold fJ;dsimp only;split
 ·have e:au j (Bb S id)=(au j S).map λ x=>{x with names:=x.names.filter λ e=> !decide (e.2=id)}:=by
   unfold Bb;rw[eG,if_neg h];exact KI (λ x:fI=>{x with names:=x.names.filter λ e=> !decide (e.2=id)}) j S
  unfold lF;rw[e];cases au j S with
  |none=>rfl
  |some x=>rfl
 ·rfl
theorem Uo(S:aS)(id:Int):lF (fJ S id).2 id≠0:=by
 unfold fJ;dsimp only;split
 ·have e:au id (Bb S id)=none:=by
   unfold Bb;rw[eG,if_pos rfl]
  unfold lF;rw[e];decide
 ·assumption
theorem Fa:∀(L:List Int) (S:aS) (j:Int),(j∈L\/lF S j≠0)->lF (L.foldl (λ S id=>(fJ S id).2) S) j≠0
 |[],S,j,h=>by
  rcases h with h|h
  ·cases h
  ·exact h
 |a::r,S,j,h=>by
  rw[List.foldl_cons];refine Fa r _ j ?_;by_cases m:j=a
  ·subst m;exact .inr (Uo S j)
  ·rcases h with h|h
   ·rcases List.mem_cons.1 h with h|h
    ·exact absurd h m
    ·exact .inl h
   ·exact .inr (by rw[PG m];exact h)
theorem Ml(T:aS)(j:Int):lF (bX T) j≠0:=by
 unfold bX;refine Fa _ T j ?_;by_cases h:j∈lT T
 ·exact .inl h
 ·right;have u:au j T=none:=pV.2 λ q m e=>h (by unfold lT;exact List.mem_map.2 ⟨q,m,e⟩);unfold lF;rw[u];decide
theorem Fb:∀(L:List Int) (T:aS),(∀id,lF T id≠0)->L.foldl (λ S id=>(fJ S id).2) T=T
 |[],_,_=>rfl
 |a::r,T,h=>by
  rw[List.foldl_cons];have e:(fJ T a).2=T:=by unfold fJ;exact if_neg (h a)
  rw[e];exact Fb r T h
theorem Am(T:aS):bX (bX T)=bX T:=Fb _ _ (Ml T)
structure BR(S:qJ):Prop where
 next:1<=S.next
 last:(S.next=1->S.last=[])/\(S.next≠1->S.last.length=32)
 each:∀x∈S.l,(1<=x.id/\x.id<S.next)/\x.hash.length=32/\bX x.t=x.t
 up:S.l.Pairwise λ x y=>x.id<y.id
theorem BR.take{S:qJ}(h:BR S)(T:aS):BR (jk S T).2:=by
 unfold jk;have z:=h.next;split
 ·exact h
 ·refine⟨by show 1<=S.next+1;omega,⟨λ e=>by have A:S.next+1=1:=e;omega,λ _=>eu _⟩,λ x m=> ?_,?_⟩
  ·rcases aaA.1 m with m|m
   ·have:=h.each x m;exact⟨⟨this.1.1,by have:=this.1.2;show x.id<S.next+1;omega⟩,this.2⟩
   ·rw[List.mem_singleton.1 m];exact⟨⟨z,by show S.next<S.next+1;omega⟩,eu _,Am T⟩
  ·show(S.l++[_]).Pairwise _;rw[List.pairwise_append];refine⟨h.up,List.pairwise_singleton _ _,λ x m y u=> ?_⟩;rw[List.mem_singleton.1 u];exact(h.each x m).1.2
theorem BR.forget{S:qJ}(h:BR S)(id now:Int):BR (gX S id now).2:=by
 rcases yQ S id now with e|⟨k,e⟩
 ·rw[e];exact h
 ·rw[e];have u:∀x∈(Uf S k).l,x∈S.l:=λ x m=>by
   rcases aaA.1 (show x∈S.l.take k++S.l.drop (k+1)from m)with m|m
   ·exact aaN m
   ·exact abx m
  refine⟨h.next,h.last,λ x m=>h.each x (u x m),?_⟩;show(S.l.take k++S.l.drop (k+1)).Pairwise _;have y:(S.l.take k++S.l.drop (k+1)).Sublist S.l:=by
   have z:(S.l.take k++S.l.drop (k+1)).Sublist (S.l.take k++S.l.drop k):=(List.Sublist.refl _).append (by
    rw[<-aaV];exact List.drop_sublist _ _)
   rwa [aaT]at z
  exact h.up.sublist y
theorem bW.drewN{D:Nat->Prop}{w:World}{x:Nat}{s:Rd}(n:Nat)(h:bW D w x s):bW D (w.drewN n) x s:=h.kept acs rfl λ _ _ _=>rfl
section
variable{D:Nat->Prop}{x:Nat}{w:World}{s:Rd}
end
section
variable{g:Nat->Own}{D:Nat->Prop}{p mb:Nat}{ib nb:Int->Nat}{T:aS}
end
section
variable{g:Nat->Own}{D:Nat->Prop}{p mb:Nat}{ib nb:Int->Nat}{T:aS}
end
def Mq(m:I8)(w:World)(e:Ending)(w':World):Prop:=
 (∃T p,parseM m=some T/\OB T/\e= .returned (.tuple #[ptr p,.int .i64 0])/\tQ w p T w')\/((∀T,parseM m=some T->¬OB T)/\e= .returned (.tuple #[.pointer none,.int .i64 12])/\Below w.heap.size w w')
theorem Mq.no{m:I8}{w w':World}(h:∀T,parseM m=some T->¬OB T)(u:Below w.heap.size w w'):Mq m w (.returned (.tuple #[.pointer none,.int .i64 12])) w':= .inr ⟨h,rfl,u⟩
theorem tQ.below{w w':World}{p:Nat}{T:aS}(h:tQ w p T w'):Below w.heap.size w w':=by
 obtain⟨g,D,y,z,nb,u,B,A,m⟩:=h;exact m
theorem Marks.step1{W w w':World}{o u:Mark}{m:Nat}(z:Marks W o w)(A:0<m)(y:Step o (λ k=>k=m) w u w'):Marks W u w':=z.step (I:=λ k=>k=m) (λ e=>by have B:0=m:=e;omega) y
theorem ah.free1{w w':World}{o u:Mark}{m n:Nat}{a:Mx}{vs:List Value}(h:ah (Free o w) w a n vs)(z:0<m)(y:Step o (λ k=>k=m) w u w'):ah (Free u w') w' a n vs:=h.free (I:=λ k=>k=m) (λ e=>by have A:0=m:=e;omega) y
theorem dW.step1{w w':World}{o u:Mark}{m j p:Nat}{T:aS}(h:dW o j w p T)(A:0<m)(y:j≠m)(z:Step o (λ k=>k=m) w u w'):dW u j w' p T:=h.step (I:=λ k=>k=m) (λ e=>by have B:0=m:=e;omega) (λ e=>y e) z
section
variable{W w:World}{o:Mark}{p:Nat}{T:aS}
theorem tQ.mark{w':World}(h:tQ w p T w')(z:Marks W o w)(j:Nat):∃u,Step o (λ k=>k=j) w u w'/\dW u j w' p T:=by
 obtain⟨g,D,B,C,nb,y,H,F,G⟩:=h;obtain⟨u,A,I,E⟩:=cK z j (λ b=>g b≠ .none) (λ b m=>⟨H b m,y.low b m⟩) G;refine⟨u,A,g,D,B,C,nb,y,λ b m=>I b m,λ b m=> ?_⟩;rw[E b (by rw[y.data b m];simp)];exact Wy λ J=>by have:=(z.new b J).2;have:=F b m;omega
end
theorem qB{S S':Nat->Prop}(a u:Mx)(n y c c':Nat)(m:I8)(w:World)(h:ah S w a n (m.map bv))(z:ah S' w u y (m.map bv)):
  Dy 112 #[.slice a n c,.slice u y c'] w λ e w'=>e= .returned (.bool true)/\w=w':=by
 have B:=gQ (c:=c) h;have A:=gQ (c:=c') z;clear h z;go_enter Tryz.func112,Tryz.ntmps112;go_wp2_with fail;go_ret;exact⟨rfl,rfl⟩
structure PI(o:Mark)(j:Nat)(w:World)(x:Nat)(s:Rd):Prop where
 at_:∃D,bW D w x s/\o x=j/\∀b,D b->o b=0
theorem PI.step{o C:Mark}{I:Nat->Prop}{j:Nat}{w w':World}{x:Nat}{s:Rd}(h:PI o j w x s)(F:¬I 0)(z:¬I j)(m:Step o I w C w'):PI C j w' x s:=by
 obtain⟨D,y,B,E⟩:=h.at_;exact⟨D,y.kept m.keep.size (m.block y.lt (by rw[B];exact z)) (λ b u A=>m.block A (by rw[E b u];exact F)),(m.old x y.lt).trans B,λ b u=>(m.old b (y.low b u)).trans (E b u)⟩
theorem PI.grow{W:World}{o:Mark}{j:Nat}{w w':World}{x:Nat}{s:Rd}(h:PI o j w x s)(u:Marks W o w)(m:Below w.heap.size w w'):PI o j w' x s:=
 h.step (I:=λ _=>False) (λ e=>e) (λ e=>e) (Step.grow u m)
theorem Rq{W w w':World}{o:Mark}{j x:Nat}(B:Marks W o w)(u:o x=j)(y:Keeps (λ b=>b=x) w w'):Step o (λ k=>k=j) w o w':=
 ⟨λ _ _=>rfl,λ b C A=>by have:=(B.new b A).2;omega,y.mono λ z _ (m:z=x)=>by rw[m];exact u⟩
section
variable{W w:World}{o:Mark}{i j s p x:Nat}{S:qJ}{T:aS}{sr:Rd}
theorem Rs(h:PI o j w x sr)(E:Marks W o w){n:Int}{y:Rd}(B:fD sr 8=(n,y)):Dy 154 #[ptr x] w λ e w'=>e= .returned (.int .u64 n)/\PI o j w' x y/\Step o (λ k=>k=j) w o w':=by
 obtain⟨D,F,u,C⟩:=h.at_;refine(QX F).mono ?_;rintro e w' ⟨m,z,A⟩;rw[B]at m z;exact⟨m,⟨D,z,u,C⟩,Rq E u A⟩
def RoRow(o:Mark)(j:Nat)(w:World)(x:Nat)(m:I8)(u:Rd)(e:Ending)(w':World):Prop:=
 ∃a c,e= .returned (.slice a m.length c)/\qj m.length c/\ah (λ b=>o b=0/\b<w'.heap.size) w' a m.length (m.map bv)/\PI o j w' x u/\Step o (λ k=>k=j) w o w'
theorem Ya(h:PI o j w x sr)(G:Marks W o w)(n:Int)(u:0<=n)(y:n<=9223372036854775807){A:I8}{E:Rd}(I:kJ sr n=(A,E)):Dy 155 #[ptr x,.int .i64 n] w (RoRow o j w x A E):=by
 obtain⟨D,J,C,N⟩:=h.at_;refine(JA J n u y).mono ?_;rintro e w' ⟨a,c,m,B,z,F,K⟩;rw[I]at m B z F;exact⟨a,c,m,B,z.mono λ b H=>⟨Wy λ M=>by have:=(G.new b M).2;omega,H.2⟩,⟨D,F,C,N⟩,Rq G C K⟩
theorem Rt(h:PI o j w x sr):Dy 240 #[ptr x] w λ e w'=>e= .returned (.int .i64 (uO sr:Int))/\w=w':=by
 obtain⟨D,m,y,u⟩:=h.at_;exact QY m
theorem ro_new{Q:Nat->Prop}(A:Marks W o w)(j:Nat)(a:Mx)(n c:Nat)(y:I8)(H:n<=100000000)(B:ah Q w a n (y.map bv)):Dy 152 #[.slice a n c] w λ e w'=>∃x u,e= .returned (ptr x)/\PI u j w' x (y,0)/\Step o (λ k=>k=j) w u w':=by
 refine(yg a n c y w H B).mono ?_;rintro e w' ⟨x,rfl,C,z,F⟩;obtain⟨u,D,G,E⟩:=cK A j (λ b=>b=x) (w':=w') (λ b m=>by subst m;exact⟨C,z.lt⟩) F;refine⟨x,u,rfl,⟨_,z,G x rfl,λ b m=> ?_⟩,D⟩;rw[E b (λ e=>by subst e;omega)];exact Wy λ I=>by have:=(A.new b I).2;omega
end
section
variable{W w:World}{o:Mark}{i j s p:Nat}{S:qJ}{T:aS}
end
section
variable{W w:World}{o:Mark}{i j s p:Nat}{S:qJ}
end
theorem PK{B n:Nat}{v:Value}{m:List Value}{w:World}(E:w.ownsRow B 201 3 v n m)(G:∀u∈m,u.oneCell'=true)(Y:n<=1000):
  Dy 119 #[v] w λ e w'=>∃N,e= .returned N/\w'.ownsRow w.heap.size 201 3 N n m/\Below w.heap.size w w':=by
 obtain⟨X,Q,H,J,I⟩:=aaq JL;obtain⟨a,c,rfl,M⟩:=bg E;obtain⟨-,-,D⟩:=ah.kg E (by unfold maxLen;omega);have O:=λ w=>Lib.run_eql_slice_nil (P:=Tryz.prog) w 198 201 a n c 0 0 Tryz.underlying198;rcases a with _|R
 ·have A:n=0:=by
   rcases aaI n with A|A
   ·exact A
   ·obtain⟨_,_,h,_⟩:=D.at_ (Nat.mul_pos A (by omega:0<3));cases h
  subst A;obtain rfl:m=[]:=aac (by have:=D.length;omega);clear E D G;go_enter Tryz.func119,Tryz.ntmps119;go_wp2_with fail;go_ret;exact⟨_,rfl,⟨rfl,.inl ⟨rfl,rfl⟩⟩,Below.refl _ _⟩
 ·have z:Below w.heap.size w (w.alloc (.cells #[] 201)):=wall w _;have W:=acp (D.move z.size λ b K V=>⟨K.2,z.block b K.2⟩);have S:=acp (sD (k:=3) (MapKept.heap_alloc w (.cells #[] 201)).1 acs);have U:=acp G;have C:=acp z;clear E D G z;go_enter Tryz.func119,Tryz.ntmps119;go_wp2_with (at_builtin;refine dU (by rfl) _ _ 198 (by rfl) w.heap.size 201 X _ 3 40 Tryz.underlying198 Q H J I rfl (by omega) _ _ _ (by rfl) S.o (some R) n c m (by rfl) W.o U.o (by unfold maxLen;omega) (by omega) (by have:=C.o.size;omega) ?_;intro A' c' Z y F);go_ret;rw[Nat.zero_add]at y;exact⟨_,by simp,y,C.o.trans F⟩
section
variable{W w:World}{o:Mark}{i j k p s:Nat}{S:qJ}
theorem IG(u:jD o i w s S)(hM:Marks W o w)(Bv:S.l.length<=8)(av:S.last.length<=64)(j:Nat)(hj:j≠0):
  Dy 52 #[ptr s] w λ e w'=>∃q V,e= .returned (ptr q)/\Step o (λ k=>k=j) w V w'/\jD V j w' q S/\Below w.heap.size w w':=by
 obtain⟨v,H,J,Q,h1,h2,h3,h4,h5,h6,h7,h8⟩:=u.at_;have HM:=acp hM;have HO:=acp h6;have Y:=acp h8;obtain⟨n,hn⟩:∃n,n=S.l.length:=⟨_,rfl⟩;obtain⟨m,X⟩:∃m,m=S.last.length:=⟨_,rfl⟩;obtain⟨E,F⟩:∃E,E=S.next:=⟨_,rfl⟩;rw[<-hn]at h4 Bv;rw[<-X,<-F]at h1;rw[<-X]at h7 av;have HN:=acp hn;have tF:=acp X;have DT:=acp F;have ak:=acp h7;have HK:acr (∀w',Below w.heap.size w w'->w'.cell? ⟨s,0,none⟩=some v/\w'.cell? ⟨s,1,none⟩=some (.int .i64 E)/\w'.cell? ⟨s,2,none⟩=some (.slice H m J)):=λ w' y=>by
  have R:=(y.block s h3).trans h1;refine⟨?_,?_,?_⟩<;>simp[World.cell?,R]
 have wm:=λ(w':World) (y:Below w.heap.size w w')=>PK (bK h4 λ b _ A=>y.block b A) h6.one (by omega);have HC:=acp wm;clear u hM h1 h2 h3 h4 h5 h6 h7 h8 hn X F wm;go_enter Tryz.func52,Tryz.ntmps52;go_wp2_with fail;refine su ((λ w'=>w'.cell? ⟨s,0,none⟩=some v/\w'.cell? ⟨s,1,none⟩=some (.int .i64 E)/\w'.cell? ⟨s,2,none⟩=some (.slice H m J))) ?_ λ u=> ?_
 ·exact HK.o _ acu.drew
 refine aM 0 u ?_;refine aM 1 u ?_;refine aM 2 u ?_;refine aM 3 u ?_;refine aM 5 u ?_;refine aM 6 u ?_;refine aM 7 u ?_;refine aM 8 u ?_;refine aM 9 u ?_;refine aM 10 u ?_;refine aM 11 u ?_;refine aM 12 u ?_;refine lJ 4 λ K P=> ?_;go_simp;refine(HC.o w.drew acu.drew).mono ?_;rintro e C ⟨v',rfl,G,U⟩;have D:Below w.heap.size w C:=acu.drew.trans U;have B:=acp D;obtain⟨O,c',rfl,M⟩:=bg G;have I:=acp G;clear G U D M;go_wp2_with fail;refine kV P (HK.o _ B.o) λ u=> ?_;clear P K;refine aM 13 u ?_;refine lJ 14 λ K P=> ?_;go_simp;have Z:=wall C (.cells #[.slice O n c',.int .i64 E,.slice H m J] 203);have N:=acp Z;have z:=acp (B.o.trans (Z.mono B.o.size));clear Z;refine kV P (HK.o _ z.o) λ u=> ?_;clear P K;refine aM 15 u ?_;refine rH ?_;go_wp2_with fail;go_ret;have oW:C.heap.size<(C.alloc (.cells #[.slice O n c',.int .i64 E,.slice H m J] 203)).heap.size:=by simp
 have aA:=B.o.size;obtain⟨V,R,g1,g2⟩:=cK HM.o j (λ b=>b=C.heap.size\/(Value.slice O n c').ownBlock=some b) (w':=C.alloc (.cells #[.slice O n c',.int .i64 E,.slice H m J] 203)) (λ b y=>by
  rcases y with rfl|y
  ·exact⟨by omega,oW⟩
  ·have:=aZ I.o b y;have:=DV I.o b y;exact⟨by simpa using aZ I.o b y,by omega⟩) z.o
 refine⟨C.heap.size,V,rfl,R,⟨.slice O n c',H,J,Q,?_,g1 _ (.inl rfl),oW,?_,λ b y=>⟨g1 b (.inr y),?_,?_⟩,?_,?_,?_⟩,z.o⟩
 ·rw[<-DT.o,<-tF.o];exact(MapKept.heap_alloc C _).1
 ·rw[<-HN.o];exact bK (Ah I.o (Nat.zero_le _)) λ b _ A=>N.o.block b A
 ·have:=DV I.o b y;omega
 ·have:=DV I.o b y;omega
 ·exact HO.o.step (λ e=>hj e.symm) R
 ·rw[<-tF.o];exact ak.o
 ·exact Y.o.move z.o.size λ b y A=>⟨⟨(R.old b y.2).trans y.1,Pd y.2 z.o.size⟩,z.o.block b y.2⟩
def gJ(M:dQ):dQ:=⟨bX M.t,M.s,M.now,λ _=>none⟩
theorem JR{M:dQ}(u:bP o i j k w p M)(Z:Marks W o w)(hT:fA M.t)(Bv:M.s.l.length<=8)(aF:M.s.last.length<=64){F D k' l':Nat}(hk:Mk F D k' l')(aC:F≠i/\D≠i)(hf:∀b,o b≠D):
  Dy 109 #[ptr p] w λ e w'=>∃q o',e= .returned (ptr q)/\Step o (λ m=>m=F\/m=D\/m=k') w o' w'/\bP o' F D k' w' q (gJ M)/\Below w.heap.size w w':=by
 obtain⟨n1,n2,n3,n4,n5,n6,n7,n8,n9,aH⟩:=hk.ne;obtain⟨t,s,v,h1,h2,h3,h4⟩:=u.at_;have U:=u.low;obtain⟨now,Dt⟩:∃now,now=M.now:=⟨_,rfl⟩;rw[<-Dt]at h1;have S:=acp Dt;have HK:acr (∀w',Below w.heap.size w w'->w'.cell? ⟨p,0,none⟩=some (ptr t)/\w'.cell? ⟨p,1,none⟩=some (ptr s)/\w'.cell? ⟨p,2,none⟩=some (.int .u64 now)):=λ w' hb=>by
  obtain⟨z0,z1,z2,-⟩:=gV ((hb.block p U).trans h1);exact⟨z0,z1,z2⟩
 have y:Below w.heap.size w w.drew:=acu.drew;have TV:=acp (Z.grow y);have iT:=acp (h2.grow Z y);have HC:=acp (yt (h3.grow y) TV.o hT D n2 hf);have mR:=acp (Step.grow (I:=λ m=>m=F\/m=D\/m=k') Z y);have xU:=acp y;clear u Z hT h1 h2 h3 h4 hf hk Dt y;go_enter Tryz.func109,Tryz.ntmps109;go_wp2_with fail;refine su ((λ w'=>w'.cell? ⟨p,0,none⟩=some (ptr t)/\w'.cell? ⟨p,1,none⟩=some (ptr s)/\w'.cell? ⟨p,2,none⟩=some (.int .u64 now))) ?_ λ u=> ?_
 ·exact HK.o _ acu.drew
 refine aM 0 u ?_;refine aM 1 u ?_;refine aM 2 u ?_;refine aM 3 u ?_;refine aM 5 u ?_;refine aM 6 u ?_;refine aM 7 u ?_;refine aM 8 u ?_;refine aM 10 u ?_;refine aM 11 u ?_;refine aM 12 u ?_;refine aM 13 u ?_;refine lJ 4 λ K B=> ?_;go_simp;refine HC.o.mono ?_;rintro e w1 ⟨q,o1,rfl,A,V,X⟩;have G:=TV.o.step (λ e=>n2 e.symm) A;have Q:=iT.o.step (λ e=>n2 e.symm) (λ e=>aC.2 e.symm) A;have K8:=acp (IG Q G Bv aF F n1);have jL:=acp G;have aA:=acp V;have mo:=acp A;have N:=acp (xU.o.trans X);clear G Q V A X iT HC;go_wp2_with fail;refine kV B (HK.o _ N.o) λ u=> ?_;clear B K;refine lJ 9 λ K B=> ?_;go_simp;refine K8.o.mono ?_;rintro e C ⟨s2,o2,rfl,z,Y,P⟩;have tF:=acp (jL.o.step (λ e=>n1 e.symm) z);have aB:=acp (aA.o.step (λ e=>n1 e.symm) (λ e=>n5 e.symm) z);have aD:=acp z;have IE:=acp Y;have H:=acp (N.o.trans (P.mono N.o.size));clear z Y P K8;go_wp2_with fail;refine kV B (HK.o _ H.o) λ u=> ?_;clear B K;refine aM 14 u ?_;refine lJ 15 λ K B=> ?_;go_simp;have E:Below C.heap.size C (C.alloc (.cells (Dq q s2 now λ _=> .pointer none) 110)):=wall C _;have ak:=acp E;have dI:=acp (H.o.trans (E.mono H.o.size));clear E;refine kV B (HK.o _ dI.o) λ u=> ?_;clear B K;refine aM 16 u ?_;refine rH ?_;go_wp2_with fail;go_ret;obtain⟨o3,J,g1,g2⟩:=cK tF.o k' (λ b=>b=C.heap.size) (w':=C.alloc (.cells (Dq q s2 now λ _=> .pointer none) 110)) (λ b hb=>by subst hb;exact⟨Nat.le_refl _,by simp⟩) ak.o;have R:¬(λ m=>m=k') 0:=λ e=>n3 e.symm;have av:Step o (λ m=>m=F\/m=D\/m=k') w o3 _:=((mR.o.trans (mo.o.mono λ m O=> .inr (.inl O))).trans (aD.o.mono λ m O=> .inl O)).trans (J.mono λ m O=> .inr (.inr O));exact⟨C.heap.size,o3,rfl,av,⟨⟨q,s2,λ _=> .pointer none,by rw[show(gJ M).now=now from S.o.symm];exact(MapKept.heap_alloc C _).1,IE.o.step R n6 J,aB.o.step R n8 J,λ n hn=>rfl⟩,g1 _ rfl,by simp⟩,dI.o⟩
theorem miss{I:Nat->Prop}{w w':World}{o u:Mark}{k:Nat}(h:∀b,o b≠k)(z:k≠0)(A:¬I k)(y:Step o I w u w'):∀b,u b≠k:=by
 intro b e;rcases Nat.lt_or_ge b w.heap.size with m|m
 ·exact h b ((y.old b m).symm.trans e)
 ·have:=(y.new b m (by rw[e];exact z)).1;rw[e]at this;exact A this
theorem iJ.settled{c:Int}{M:dQ}(h:iJ c M):iJ c (gJ M):=⟨h.t.bX,h.s,h.next,h.now,λ n f m=>by cases m⟩
theorem PL{c:Int}{M:dQ}(h:vo W o i w p c M)(G:0<i)(u:Nat)(D:i+4<u)(C:∀b,o b≠u+1):
  Dy 109 #[ptr p] w λ e w'=>∃q z,e= .returned (ptr q)/\Step o (Five u) w z w'/\vo W z u w' q c (gJ M):=by
 refine(JR h.st h.marks h.ok.t.1 h.ok.s.few h.ok.s.last (mk5 (i:=u) (by omega)).mm (by omega) C).mono ?_;rintro e w' ⟨q,z,rfl,B,A,E⟩;have y:Step o (Five u) w z w':=B.mono λ m F=>pR (by omega);exact⟨q,z,rfl,y,⟨A,h.marks.step (λ e=>by have:=e.1;omega) y,h.ok.settled⟩⟩
end
