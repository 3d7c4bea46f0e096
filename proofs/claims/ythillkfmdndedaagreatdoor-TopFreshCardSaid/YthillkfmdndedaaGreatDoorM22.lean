/- tree -/
import Derived.Test.YthillkfmdndedaaGreatDoorM19
import Derived.Test.YthillkfmdndedaaGreatDoorM21
set_option maxRecDepth 100000
set_option maxHeartbeats 64000000
set_option linter.all false
namespace Go.Proofs.YthillkfmdndedaaGreatDoor
open Go.ChangeShapes Go.WideShapes Go.ChangeAt Go.RowKit
theorem Lu(b:Nat)(l:List (Nm×Value))(w:World)(m:MapAt dD w b l):Dy 118 #[.map (some b)] w λ e w'=>e= .returned (.map (some w.heap.size))/\MapAt dD w' w.heap.size l/\Below w.heap.size w w'/\w.heap.size<w'.heap.size:=
 (AnyW.maps_Clone_owns Tryz.WR 9 ou b l.length (zA dD l) w m).mono λ e w' h=>⟨h.1,MapAt.wZ h.2.1,h.2.2.2,h.2.1.lt⟩
theorem OE(w:World):Dy 118 #[.map none] w λ e w'=>e= .returned (.map none)/\w'=w:=AnyW.maps_Clone_nil Tryz.WR w
def CloneAt(w:World)(x:fI)(e:Ending)(w':World):Prop:=∃n,e= .returned (dS x n)/\(x.kind=2->MapAt dD w' n (bJ x)/\w.heap.size<=n/\n<w'.heap.size)/\Below w.heap.size w w'
theorem OG{w:World}{x:fI}{nb:Nat}(A:x.kind=2->MapAt dD w nb (bJ x)):Dy 118 #[dS x nb] w (CloneAt w x):=by
 by_cases m:x.kind=2
 ·have u:dS x nb= .map (some nb):=if_pos m;rw[u];refine(Lu nb (bJ x) w (A m)).mono ?_;rintro e w' ⟨rfl,B,y,z⟩;exact⟨w.heap.size,by unfold dS;rw[if_pos m],λ _=>⟨B,Nat.le_refl _,z⟩,y⟩
 ·have u:dS x nb= .map none:=if_neg m;rw[u];refine(OE w).mono ?_;rintro e w' ⟨rfl,rfl⟩;exact⟨0,by unfold dS;rw[if_neg m],λ h=>absurd h m,Below.refl _ _⟩
section
variable{g:Nat->Own}{D:Nat->Prop}{p mb:Nat}{ib nb:Int->Nat}{T:aS}
def CopyRel(g:Nat->Own)(D:Nat->Prop)(w:World)(mb:Nat)(ib:Int->Nat)(T:aS)(q z r:Nat)(wr:World):Prop:=
 ∃(left:Int->Bool) (u:Nat) (y:Nat->Own) (A m:Int->Nat),dR aY wr mb r (T.map λ q=>(q.1,ptr (ib q.1))) left u/\aK y D wr q z A m (rz left T)/\(∀b,y b≠ .none->w.heap.size<=b/\b≠r)/\Below w.heap.size w wr
def CopyAt(D:Nat->Prop)(w:World)(T:aS)(e:Ending)(w':World):Prop:=
 ∃q u y z m,e= .returned (ptr q)/\aK u D w' q y z m T/\(∀b,u b≠ .none->w.heap.size<=b)/\Below w.heap.size w w'
theorem OH{z:World}{q m:Nat}(E:z.heap[q]? =some (.cells #[.map (some m)] 192 (0,0)))(C:MapAt aY z m [])(B:q≠m)(A:∀b,D b->b<z.heap.size/\b≠q/\b≠m):
  aK (λ b=>if b=q then .head else if b=m then .items else .none) D z q m (λ _=>0) (λ _=>0) []:=by
 refine⟨E,C,λ k x y=>(by simp[au]at y),if_pos rfl,by rw[if_neg (aa6 B),if_pos rfl],λ k x y=>(by simp[au]at y),λ k x y=>(by simp[au]at y),λ b u=> ?_,λ b u=> ?_,λ b u=>(A b u).1⟩
 ·rw[if_neg (A b u).2.1,if_neg (A b u).2.2]
 ·by_cases G:b=q
  ·rw[G];exact(qW.1 E).1
  ·by_cases F:b=m
   ·rw[F];exact C.lt
   ·rw[if_neg G,if_neg F]at u;exact absurd rfl u
theorem Q7(w:World)(h:aK g D w p mb ib nb T)(hT:OkW T):Dy 51 #[ptr p] w (CopyAt D w T):=by
 have kg:= @ab3 Tryz.prog;have HH:=acp h;have HT:=acp hT;obtain⟨c0,iD,kN⟩:=h.cell;have aD:=acp ((wall w (.map #[] 0)).trans ((wall (w.alloc (.map #[] 0)) (.cells #[.map (some w.heap.size)] 192)).mono (by simp)));have iM:=acp ((h.below aD.o acs).map);have c2:=(aD.o.cell (p:=⟨p,0,none⟩) iD).trans c0;clear h hT;go_enter Tryz.func51,Tryz.ntmps51;go_wp2_with (at_range;refine jI aY rfl _ 190 193 rfl Tryz.underlying190 rfl iM.o ?_;intro w0 aJ Q iE)
 go_frame
 have WS:=acp (mh (w:=w.alloc (.map #[] 0)) (v:= .map (some w.heap.size)) (t:=192));have gy:((w.alloc (.map #[] 0)).alloc (.cells #[.map (some w.heap.size)] 192)).heap[w.heap.size+1]? =some (.cells #[.map (some w.heap.size)] 192 (0,0)):=by
  have:=(MapKept.heap_alloc (w.alloc (.map #[] 0)) (.cells #[.map (some w.heap.size)] 192)).1;simpa using this
 have d9:MapAt aY ((w.alloc (.map #[] 0)).alloc (.cells #[.map (some w.heap.size)] 192)) w.heap.size []:=(MapAt.made (F:=aY) w).kept ((MapKept.heap_alloc (w.alloc (.map #[] 0)) _).2 w.heap.size (by simp));simp only[Pe]at aJ Q iE;simp only[Pe];have gL:aK (λ b=>if b=w.heap.size+1 then .head else if b=w.heap.size then .items else .none) D w0 (w.heap.size+1) w.heap.size (λ _=>0) (λ _=>0) []:=by
  refine OH ((Q.block _ (by omega)).trans gy) (d9.kept (Q.block _ (by omega))) (by omega) λ b m=> ?_;have:=HH.o.qM b m;omega
 go_loopw [4,5] (λ _ _ wr=>CopyRel g D w mb ib T (w.heap.size+1) w.heap.size (w.heap.size+2) wr) (λ _ _ wr=>wr.rangeLeft mb (w.heap.size+2))
 case atStart=>
  refine⟨_,_,(λ b=>if b=w.heap.size+1 then .head else if b=w.heap.size then .items else .none),λ _=>0,λ _=>0,aJ,?_,?_,aD.o.trans (Q.mono (by omega))⟩
  ·rw[Ls (λ q hq=>by rw[eH,fq iR HT.o.sorted hq];rfl)];exact gL
  ·intro b m;by_cases h1:b=w.heap.size+1
   ·omega
   ·by_cases h2:b=w.heap.size
    ·omega
    ·simp only[if_neg h1,if_neg h2]at m;exact absurd rfl m
 case round=>
  obtain⟨left,jv,g1,aB,bn,hR,hA,aL,hB⟩:=hrel;have bq:=acp hA;have HR:=acp hR;have HB:=acp hB;have aC:=acp aL;clear hR hA hB aL;go_wp2_with (first|(at_next;refine kE aY rfl _ rfl rfl HR.o ?_ ?_))
  ·intro M;have Ez:acr (rz left T=T):=Tf M;clear M;go_wp2;go_ret;have h9:=bq.o;rw[Ez.o]at h9;exact⟨_,g1,_,aB,bn,rfl,h9,λ b m=>(aC.o b m).1,HB.o⟩
  ·intro k v E W Wv N P lN aN ak ko ig;rw[eH]at P;cases hy:au k T with
   |none=>rw[hy]at P;cases P
   |some x=>
    rw[hy]at P;cases P;have jw:=HR.o.lt;have av:Below w.heap.size w E:=HB.o.trans (ak.bS HB.o.size λ b m (cB:b=w.heap.size+2)=>by omega);have aA:=HH.o.below av acs;have J:aK g1 D E (w.heap.size+1) w.heap.size aB bn (rz left T):=bq.o.keeps ak λ b m (cB:b=w.heap.size+2)=>by
     rcases m with m|m
     ·exact(aC.o b m).2 cB
     ·have:=HH.o.qM b m;omega
    obtain⟨a,c,u,Z,R⟩:=(aA.item k x hy).cells;have bS:=(aA.item k x hy).names;have B:ib k<E.heap.size:=(qW.1 u).1;have jo:=J.cell.2.1;have iO:=J.cell.1;have U:=lN.lt;have jm:acr (∀w5 v,Below E.heap.size E w5->∃Y,(Instr.mapUpdate 190 (.map (some w.heap.size)) (.int .i64 k) v).run Tryz.prog w5= .ok () Y/\MapAt aY Y w.heap.size (dO aY.lt k v ((rz left T).map λ q=>(q.1,ptr (aB q.1))))/\w5.mapTurned Y w.heap.size):=λ w5 v m=>by
     refine(J.map.kept (m.block _ J.cell.2.2)).rU aY Tryz.underlying190 ?_ k v Wv;have h1:(rz left T).length<=T.length:=abq _ _;have h2:=HT.o.len;rw[List.length_map];unfold maxLen;omega
    have vK:acr (∀w',Below E.heap.size E w'->w'.cell? ⟨w.heap.size+1,0,none⟩=some (.map (some w.heap.size))/\w'.cell? ⟨ib k,0,none⟩=some (.int .i64 k)/\w'.cell? ⟨ib k,1,none⟩=some (.int .i64 x.kind)/\w'.cell? ⟨ib k,2,none⟩=some (.int .i64 x.links)/\w'.cell? ⟨ib k,3,none⟩=some (.int .i64 x.b.length)/\w'.cell? ⟨ib k,4,none⟩=some (.int .u64 x.aL)/\w'.cell? ⟨ib k,5,none⟩=some (.bool x.closed)/\w'.cell? ⟨ib k,6,none⟩=some (.slice a x.b.length c)/\w'.cell? ⟨ib k,7,none⟩=some (dS x (nb k))):=λ w' m=>by
     refine⟨(m.cell (p:=⟨w.heap.size+1,0,none⟩) jo).trans iO,?_,?_,?_,?_,?_,?_,?_,?_⟩
     ·exact(m.cell (p:=⟨ib k,0,none⟩) B).trans (iL u 0)
     ·exact(m.cell (p:=⟨ib k,1,none⟩) B).trans (iL u 1)
     ·exact(m.cell (p:=⟨ib k,2,none⟩) B).trans (iL u 2)
     ·exact(m.cell (p:=⟨ib k,3,none⟩) B).trans (iL u 3)
     ·exact(m.cell (p:=⟨ib k,4,none⟩) B).trans (iL u 4)
     ·exact(m.cell (p:=⟨ib k,5,none⟩) B).trans (iL u 5)
     ·exact(m.cell (p:=⟨ib k,6,none⟩) B).trans (iL u 6)
     ·exact(m.cell (p:=⟨ib k,7,none⟩) B).trans (iL u 7)
    have dN:=acp (OG (w:=E.drew) (x:=x) (nb:=nb k) λ z=>(bS z).kept rfl);have SH:=acp J;have HY:=acp hy;have fT:=acp lN;have Gw:=acp aN;have bT:=acp av;have dV:=acp R;have dn:=acp Z;have dI:=acp N;have e3:aY.val k= .int .i64 k:=rfl;rw[e3]at ig⊢;obtain⟨G,aF⟩:∃G,G=x.b.length:=⟨_,rfl⟩;obtain⟨nv,ZL⟩:∃nv,nv=dS x (nb k):=⟨_,rfl⟩;rw[<-aF,<-ZL]at vK;rw[<-ZL]at dN;have jc:=acp aF;clear aA J u Z R bS hy lN aN ak av N e3 aF ZL;go_wp2_with fail;refine vJ 20 ((λ w'=>w'.cell? ⟨w.heap.size+1,0,none⟩=some (.map (some w.heap.size))/\w'.cell? ⟨ib k,0,none⟩=some (.int .i64 k)/\w'.cell? ⟨ib k,1,none⟩=some (.int .i64 x.kind)/\w'.cell? ⟨ib k,2,none⟩=some (.int .i64 x.links)/\w'.cell? ⟨ib k,3,none⟩=some (.int .i64 G)/\w'.cell? ⟨ib k,4,none⟩=some (.int .u64 x.aL)/\w'.cell? ⟨ib k,5,none⟩=some (.bool x.closed)/\w'.cell? ⟨ib k,6,none⟩=some (.slice a G c)/\w'.cell? ⟨ib k,7,none⟩=some nv)) ?_ λ y=> ?_
    ·exact vK.o _ acu.drew
    refine aO 0 y ?_;refine aO 1 y ?_;refine aO 2 y ?_;refine aO 3 y ?_;refine aO 4 y ?_;refine aO 5 y ?_;refine aO 6 y ?_;refine aO 7 y ?_;refine aO 8 y ?_;refine aO 9 y ?_;refine aO 10 y ?_;refine aO 11 y ?_;refine aO 12 y ?_;refine aO 13 y ?_;refine aO 14 y ?_;refine aO 15 y ?_;refine aO 16 y ?_;refine cu 17 λ K X=> ?_;go_simp;refine dN.o.mono ?_;rintro e A ⟨n,rfl,dK,dM⟩;have H:Below E.heap.size E A:=acu.drew.trans dM;obtain⟨V,aH⟩:∃V,dS x n= .map V:=by unfold dS;split<;>exact⟨_,rfl⟩
    rw[aH];have iN:=acp aH;have ZN:=acp dK;clear aH dK dM;go_wp2_with fail;refine b_ X (vK.o _ H) λ y=> ?_;clear X K;refine aO 18 y ?_;refine cu 19 λ K X=> ?_;go_simp;have Tg:Below E.heap.size E (A.alloc (.cells #[.int .i64 k,.int .i64 x.kind,.int .i64 x.links,.int .i64 G,.int .u64 x.aL,.bool x.closed,.slice a G c,.map V] 196)):=H.trans ((wall A _).mono H.size);have bf:(A.alloc (.cells #[.int .i64 k,.int .i64 x.kind,.int .i64 x.links,.int .i64 G,.int .u64 x.aL,.bool x.closed,.slice a G c,.map V] 196)).heap[A.heap.size]? =some (.cells (jW k x a c (if x.kind=2 then n else A.heap.size+1)) 196 (0,0)):=by
     rw[(MapKept.heap_alloc A _).1];unfold jW;have e9:dS x (if x.kind=2 then n else A.heap.size+1)= .map V:=by
      have:=iN.o;unfold dS at this⊢;by_cases z:x.kind=2
      ·rw[if_pos z]at this⊢;rw[if_pos z];exact this
      ·rw[if_neg z]at this⊢;exact this
     rw[e9,<-jc.o]
    have jy:(A.alloc (.cells #[.int .i64 k,.int .i64 x.kind,.int .i64 x.links,.int .i64 G,.int .u64 x.aL,.bool x.closed,.slice a G c,.map V] 196)).heap.size=A.heap.size+1:=by simp
    have S:=wall A (.cells #[.int .i64 k,.int .i64 x.kind,.int .i64 x.links,.int .i64 G,.int .u64 x.aL,.bool x.closed,.slice a G c,.map V] 196);refine b_ X (vK.o _ Tg) λ y=> ?_;clear X K;generalize (A.alloc (.cells #[.int .i64 k,.int .i64 x.kind,.int .i64 x.links,.int .i64 G,.int .u64 x.aL,.bool x.closed,.slice a G c,.map V] 196))=w5 at*;refine cu 20 λ K X=> ?_;go_simp;obtain⟨Y,O,Kt,Vv⟩:=jm.o w5 (ptr A.heap.size) Tg;rw[O];go_simp;refine o_ X ?_;clear y X K;have BD:=acp Kt;have I:=acp Vv;have GA:=acp S;have gM:=acp bf;have jG:=iw Vv;clear Kt Vv O bf S;go_wp2_with fail;have fK:=H.size;have C:∀b,b<E.heap.size->b≠w.heap.size->Y.heap[b]? =E.heap[b]? :=λ b m hn=>(eU I.o b (by omega) hn).trans (Tg.block b m);have bD:dR aY Y mb (w.heap.size+2) (T.map λ q=>(q.1,ptr (ib q.1))) _ W:=fT.o.kept (C mb U.1 (by omega)) (C _ U.2.1 (by omega));go_roundw
    case rel=>
     have iT:jJ D Y k A.heap.size (if x.kind=2 then n else A.heap.size+1) x:=by
      refine⟨⟨a,c,(eU I.o _ (by omega) (by omega)).trans gM.o,dn.o,dV.o.move (by omega) λ b m jl=>⟨m,C b jl (by have:=HH.o.qM b m;omega)⟩⟩,λ z=> ?_⟩;obtain⟨k1,k2,k3⟩:=ZN.o z;rw[if_pos z];have jL:E.heap.size<=n:=k2;exact(k1.kept (GA.o.block n k3)).kept (eU I.o n (by omega) (by omega))
     have dG:=SH.o.addD (i:=A.heap.size) (n:=if x.kind=2 then n else A.heap.size+1) (k:=k) (x:=x) (w':=Y) fK (by
      by_cases z:x.kind=2
      ·rw[if_pos z];exact(ZN.o z).2.1
      ·rw[if_neg z];omega) (by
      by_cases z:x.kind=2
      ·rw[if_pos z];have:=(ZN.o z).2.2;omega
      ·rw[if_neg z];omega) (by omega) (λ z=>by
      rw[if_pos z];have:=(ZN.o z).2.2;omega) (by rw[Bz,if_pos dI.o]) BD.o (by omega) C iT
     rw[OC HT.o.sorted HY.o dI.o]at dG;refine⟨_,W,_,_,_,bD,dG,?_,?_⟩
     ·intro b m;by_cases h1:b=A.heap.size
      ·omega
      ·simp only[if_neg h1]at m;by_cases h2:b=(if x.kind=2 then n else A.heap.size+1)/\x.kind=2
       ·have h3:=ZN.o h2.2;rw[if_pos h2.2]at h2;have h4:E.heap.size<=n:=h3.2.1;omega
       ·rw[if_neg h2]at m;exact aC.o b m
     ·refine bT.o.trans ⟨?_,?_,?_,by omega,λ b m=>C b (by have:=bT.o.size;omega) (by omega)⟩
      ·exact(eX I.o).os.trans Tg.os
      ·exact(eX I.o).tape.trans Tg.tape
      ·exact(eX I.o).output.trans Tg.output
    case measure=>
     rw[bD.measure,HR.o.measure];exact Gw.o
end
theorem Ik{S S':Nat->Prop}(a E:Mx)(m A y u:Nat)(ss z:List ByteArray)(w:World)(h:aW S w a m ss)(F:aW S' w E y z):
  Dy 196 #[.slice a m A,.slice E y u] w λ e w'=>e= .returned (.bool (decide (ss=z)))/\Below w.heap.size w w':=by
 have J:=h.length;have C:=F.length;have M:=h.row.small;have H:=F.row.small;unfold maxLen at M H;by_cases B:m=y
 ·subst B;by_cases N:m=0
  ·subst N;refine(Tryz.slices_Equal_string_empty a E A 0 u w (by omega)).mono ?_;rintro e w' ⟨rfl,rfl⟩;obtain rfl:ss=[]:=by simpa using J
   obtain rfl:z=[]:=by simpa using C
   exact⟨rfl,Below.refl _ _⟩
  ·obtain⟨b,I,rfl,_,_,_⟩:=h.row.at_ (by omega);obtain⟨K,D,rfl,_,_,_⟩:=F.row.at_ (by omega);refine(Tryz.slices_Equal_string b I m A K D m u ss z w (by omega) (by omega) (by omega) (by omega) (λ j G=>Bg h j G) (λ j G=>Bg F j G)).mono ?_;rintro e w' ⟨rfl,q,rfl⟩;rw[List.take_of_length_le (by omega),List.take_of_length_le (by omega)];exact⟨rfl,⟨rfl,rfl,rfl,Nat.le_refl _,λ _ _=>rfl⟩⟩
 ·refine(Tryz.slices_Equal_string_lens a E m A y u w B).mono ?_;rintro e w' ⟨rfl,rfl⟩;have:ss≠z:=λ e=>B (by rw[<-J,<-C,e]);exact⟨by simp[this],Below.refl _ _⟩
def tT(ss m:List ByteArray):Bool:=decide (ss.take m.length=m)
theorem Lv{S S':Nat->Prop}(a I:Mx)(y z m C:Nat)(ss u:List ByteArray)(w:World)(h:aW S w a y ss)(H:aW S' w I m u)(K:y<=z):
  Dy 136 #[.slice a y z,.slice I m C] w λ e w'=>e= .returned (.bool (tT ss u))/\Below w.heap.size w w':=by
 have J:=h.length;have A:=H.length;have P:=h.row.small;unfold maxLen at P;by_cases G:m<=y
 ·have M:=h.take m G;have B:decide (ss.take m=u)=tT ss u:=by
   unfold tT;rw[A]
  have D:=acp B;clear B J A;have R:m<=z:=by omega
  cases a with
  |none=>
   have E:m=0:=by
    rcases aaI m with E|E
    ·exact E
    ·obtain⟨b,Q,e,_⟩:=h.row.at_ (by omega);cases e
   subst E;go_enter Tryz.func136,Tryz.ntmps136;go_wp2_with fail;refine(Ik _ _ _ _ _ _ _ _ _ M H).mono ?_;rintro e N ⟨rfl,F⟩;rw[D.o];go_wp2_with fail;go_ret;exact⟨rfl,F⟩
  |some U=>
   go_enter Tryz.func136,Tryz.ntmps136;go_wp2_with fail;refine(Ik _ _ _ _ _ _ _ _ _ M H).mono ?_;rintro e N ⟨rfl,F⟩;rw[D.o];go_wp2_with fail;go_ret;exact⟨rfl,F⟩
 ·have B:tT ss u=false:=by
   unfold tT;rw[aa1];intro O;have:=aaK List.length O;simp at this;omega
  have D:=acp B;clear B J A;go_enter Tryz.func136,Tryz.ntmps136;go_wp2_with fail;go_ret;exact⟨iW D.o.symm,Below.refl _ _⟩
theorem Lx(p q:List Nm):tT (p.map strOf) (q.map strOf)=lg p q:=by
 unfold tT lg;rw[List.length_map,<-aaJ];have:((p.take q.length).map strOf=q.map strOf)↔p.take q.length=q:=by
  constructor
  ·intro h;have:=aaK Sl h
   rwa [Hg,Hg]at this
  ·intro h;rw[h]
 simp only[this]
section
variable{g:Nat->Own}{D:Nat->Prop}{p mb:Nat}{ib nb:Int->Nat}{T:aS}
theorem LA{w G u B:World}{A m id:Int}{C I:Nm}{y:fI}(h:aK g D w p mb ib nb T)(z:Below w.heap.size w G)(E:aK g D u p mb ib nb (aV T A C)/\Keeps (λ b=>g b≠ .none) G u)
  (H:au m (aV T A C)=some y)(F:y.kind=2)(M:MapAt dD B (nb m) (dO dD.lt I (.int .i64 id) (bJ y)))(J:u.mapTurned B (nb m)):Turn g D w p mb (setName (aV T A C) m I id) (.int .i64 0) (.returned (.int .i64 0)) B:=by
 have K:=E.1.oO m y H F;refine Turn.of rfl (E.1.set H F M J) ((gI z).trans (E.2.trans ((eX J).mono λ b _ z=> ?_) (λ _ _ h=>h)) (λ _ _ h=>h));rw[show b=nb m from z,K];simp
theorem Ti{S S':Nat->Prop}(a:Mx)(n c:Nat)(A:List Nm)(a':Mx)(R c':Nat)(m:List Nm)(w:World)(h:aK g D w p mb ib nb T)(hO:gT T)(hS:aW S w a n (A.map strOf))(aC:aW S' w a' R (m.map strOf))(hc:n<=c)(uJ:n<=1000000)(iO:R<=c')(iN:R<=1000000):
  Dy 65 #[ptr p,.slice a n c,.slice a' R c'] w (Turn g D w p mb (dz T A m).2 (.int .i64 (dz T A m).1)):=by
 have HH:=acp h;have hT:=hO.1;have HT:=acp hT;have HF:=acp (KX a n c A a' R c' m w hS aC);have oP:=acp (λ N (hb:Below w.heap.size w N)=>rV a n c A N (h.below hb acs) hT (hS.below hb acs));have rW:=acp (λ N (hb:Below w.heap.size w N)=>w_ a' R c' m N (h.below hb acs) hT (aC.below hb acs) iO iN);have O:=acp (λ N (hb:Below w.heap.size w N)=>Lv a' a R c' n c (m.map strOf) (A.map strOf) N (aC.below hb acs) (hS.below hb acs) iO);rw[Lx]at O;have iT:m.length=R:=by have:=aC.length;simpa using this
 have WT:=acp (λ(d:Int) (B:Nm) (hp:aQ T A=(d,B,0)) N (hb:Below w.heap.size w N)=>Ep a n c A N (h.below hb acs) hT (hS.below hb acs) hc uJ hp);have jl:=acp (λ id (hi:(au id T).isSome=true) N (hb:Below w.heap.size w N)=>La hT 8 id N (h.below hb acs) hi (hO.Wx id) (by omega));have iM:=acp (λ N (hb:Below w.heap.size w N)=>h.below hb acs);have jm:=acp (λ id=>(hO.Wx id).le);clear h hT hS aC hO;obtain⟨f,bq⟩:∃f,f=mH A m:=⟨_,rfl⟩;rw[<-bq]at HF;obtain⟨⟨id,e0⟩,hq⟩:∃q,q=aP T 0 A:=⟨_,rfl⟩;rw[<-hq]at oP;obtain⟨⟨d,B,z⟩,bD⟩:∃q,q=aQ T m:=⟨_,rfl⟩;unfold ql at rW;rw[<-bD]at rW
 have Sv:acr (lY T A m=if f≠0 then f else if e0≠0 then e0 else if id=0 then 1 else if z≠0 then z else if bQ T id=2/\lg m A=true then 1 else
   match au B (bM T d)with
   |some k=>if k=id then 0 else 21
   |none=>if 8<m.length+mK T 8 id then 3 else 0):=by
  unfold lY;rw[<-bq,<-hq,<-bD]<;>exact rfl
 have DR:acr (∀k,lY T A m=k->k≠0->dz T A m=(k,T)):=λ k hk h0=>by
  unfold dz;rw[hk,if_neg (λ h=>h0 h.1)]
 have jv:=acp bq;have HQ:=acp hq;have WS:=acp bD;clear bq hq bD;go_enter Tryz.func65,Tryz.ntmps65;go_wp2_with fail;refine HF.o.mono ?_;rintro e N ⟨rfl,jo⟩;have ak:=acp jo;clear jo;by_cases hf:f=0
 ·subst hf;go_wp2_with fail;refine(oP.o N ak.o).mono ?_;rintro e w2 ⟨rfl,rfl⟩;by_cases he:e0=0
  ·subst he;by_cases WU:id=0
   ·have F:acr (dz T A m=(1,T)):=DR.o 1 (by rw[Sv.o,if_neg (by simp),if_neg (by simp),if_pos WU]) (by decide);subst WU;go_wp2_with fail;go_ret;rw[F.o];exact Turn.same HH.o ak.o rfl
   ·have jw:(id==0)=false:=by simpa using WU
    have K_:=acp WU;clear WU;go_wp2_with fail;refine(rW.o N ak.o).mono ?_;rintro e w2 ⟨rfl,jc⟩;have u:=acp (ak.o.trans (jc.mono ak.o.size));clear jc;by_cases hz:z=0
    ·subst hz
     (first|rw[if_pos rfl]|rw[if_pos trivial])
     have dN:=tJ jv.o.symm;obtain⟨x,hx,ig,gL⟩:=kH HT.o (p:=m) (by rw[<-WS.o]);rw[<-WS.o]at hx gL;have dG:=jg dN.2 _ gL;have mY:=Ws dG;obtain⟨y,hy⟩:=aag.1 (qp HQ.o.symm HT.o);have rE:=HT.o.ids id y hy;have J:aY.ok id:=gG rE.1 (by omega);have HG:acr (au id (T.map λ q=>(q.1,ptr (ib q.1)))=some (ptr (ib id))):=by rw[eH,hy];rfl
     have Z:=acp hx;have zN:=acp ig;have HY:=acp hy;have Jk:=acp dG;have bS:=acp dN;have aA:=iM.o w2 u.o;obtain⟨d7,fK⟩:=mJ aA hx ig;have Bo:=acp fK;have sw:=acp aA.map;have q0:=aA.cell.1;obtain⟨_,c1,_⟩:=(aA.item id y hy).cell;clear hx ig gL dG hy dN aA fK;have cB:acr (lY T A m=if bQ T id=2/\lg m A=true then 1 else match au B x.names with|some k=>if k=id then 0 else 21|none=>if 8<m.length+mK T 8 id then 3 else 0):=by
      rw[Sv.o,if_neg (by simp),if_neg (by simp),if_neg K_.o,if_neg (by simp),kZ Z.o];exact rfl
     by_cases V:bQ T id=2/\lg m A=true
     ·have F:acr (dz T A m=(1,T)):=DR.o 1 (by rw[cB.o,if_pos V]) (by decide);have W:y.kind=2:=by rw[<-eO HY.o];exact V.1
      have hW:=V.2;rw[hW]at O;rw[W]at c1;clear V W hW;cases I:au B x.names with
      |none=>
       have Y:acr (au B (bJ x)=none):=by rw[eY,I];rfl
       clear I;go_wp2_with (first|(at_lookup;refine aR dD rfl _ _ 194 3 rfl aah (Tryz.gM _) rfl Bo.o B rfl mY ?_;rw[Y.o])|(at_lookup;refine aX aY rfl _ _ 190 193 rfl Tryz.underlying190 (Tryz.bD _) rfl sw.o id rfl J ?_;rw[HG.o]));refine(O.o w2 u.o).mono ?_;rintro e w3 ⟨rfl,C⟩;have E:=acp (u.o.trans (C.mono u.o.size));clear C;go_wp2_with fail;go_ret;rw[F.o];exact Turn.same HH.o E.o rfl
      |some j=>
       have Y:acr (au B (bJ x)=some (.int .i64 j)):=by rw[eY,I];rfl
       clear I;go_wp2_with (first|(at_lookup;refine aR dD rfl _ _ 194 3 rfl aah (Tryz.gM _) rfl Bo.o B rfl mY ?_;rw[Y.o])|(at_lookup;refine aX aY rfl _ _ 190 193 rfl Tryz.underlying190 (Tryz.bD _) rfl sw.o id rfl J ?_;rw[HG.o]));refine(O.o w2 u.o).mono ?_;rintro e w3 ⟨rfl,C⟩;have E:=acp (u.o.trans (C.mono u.o.size));clear C;go_wp2_with fail;go_ret;rw[F.o];exact Turn.same HH.o E.o rfl
     ·have U:acr (lY T A m=match au B x.names with|some k=>if k=id then 0 else 21|none=>if 8<m.length+mK T 8 id then 3 else 0):=by
       rw[cB.o,if_neg V];exact rfl
      by_cases W:y.kind=2
      ·have hW:lg m A=false:=by
        cases hw:lg m A with
        |false=>rfl
        |true=>exact absurd ⟨(eO HY.o).trans W,hw⟩ V
       rw[hW]at O;rw[W]at c1;clear V W hW;cases I:au B x.names with
       |some j=>
        have Y:acr (au B (bJ x)=some (.int .i64 j)):=by rw[eY,I];rfl
        have zF:acr ((au B x.names).isSome=true):=by rw[I];exact rfl
        rw[I]at U;clear I;by_cases G:j=id
        ·rw[G]at Y U;clear G;have F:acr (dz T A m=(0,T)):=by
          unfold dz;rw[<-WS.o,kZ Z.o,zF.o,U.o];simp only[if_pos,if_neg,and_false,abJ,if_false]
          first|exact rfl|exact trivial
         go_wp2_with (first|(at_lookup;refine aR dD rfl _ _ 194 3 rfl aah (Tryz.gM _) rfl Bo.o B rfl mY ?_;rw[Y.o])|(at_lookup;refine aX aY rfl _ _ 190 193 rfl Tryz.underlying190 (Tryz.bD _) rfl sw.o id rfl J ?_;rw[HG.o]));refine(O.o w2 u.o).mono ?_;rintro e w3 ⟨rfl,C⟩;have E:=acp (u.o.trans (C.mono u.o.size));clear C;go_wp2_with fail;go_ret;rw[F.o];exact Turn.same HH.o E.o rfl
        ·have bn:(j==id)=false:=by simpa using G
         have F:acr (dz T A m=(21,T)):=DR.o 21 (by rw[U.o];simp only[if_neg G]) (by decide);clear G;go_wp2_with (first|(at_lookup;refine aR dD rfl _ _ 194 3 rfl aah (Tryz.gM _) rfl Bo.o B rfl mY ?_;rw[Y.o])|(at_lookup;refine aX aY rfl _ _ 190 193 rfl Tryz.underlying190 (Tryz.bD _) rfl sw.o id rfl J ?_;rw[HG.o]));refine(O.o w2 u.o).mono ?_;rintro e w3 ⟨rfl,C⟩;have E:=acp (u.o.trans (C.mono u.o.size));clear C;go_wp2_with fail;go_ret;rw[F.o];exact Turn.same HH.o E.o rfl
       |none=>
        have Y:acr (au B (bJ x)=none):=by rw[eY,I];rfl
        have HJ:=acp I;rw[I]at U;clear I;have WV:=rX bS.o.2;have dV:=jm.o id;have M:=acp (jl.o id (by rw[HY.o];rfl));unfold yG at M;generalize mK T 8 id=dd at U M dV;rw[iT]at U WV;have e1:IntKind.i64.wrap ((R:Int)+(dd:Int))=(R:Int)+(dd:Int):=aaf _ (by omega);by_cases P:8<R+dd
        ·have F:acr (dz T A m=(3,T)):=DR.o 3 (by rw[U.o];simp only[if_pos P]) (by decide);have dM:decide ((8:Int)<(R:Int)+(dd:Int))=true:=by simp only[aap];omega
         clear P;go_wp2_with (first|(at_lookup;refine aR dD rfl _ _ 194 3 rfl aah (Tryz.gM _) rfl Bo.o B rfl mY ?_;rw[Y.o])|(at_lookup;refine aX aY rfl _ _ 190 193 rfl Tryz.underlying190 (Tryz.bD _) rfl sw.o id rfl J ?_;rw[HG.o]));refine(O.o w2 u.o).mono ?_;rintro e w3 ⟨rfl,C⟩;have E:=acp (u.o.trans (C.mono u.o.size));clear C;go_wp2_with fail;refine(M.o w3 E.o).mono ?_;rintro e w4 ⟨rfl,H⟩;have dI:=acp (E.o.trans (H.mono E.o.size));clear H;go_wp2_with fail;go_ret;rw[F.o];exact Turn.same HH.o dI.o rfl
        ·have dM:decide ((8:Int)<(R:Int)+(dd:Int))=false:=by simp only[aa1];omega
         have aL:A≠[]:=λ e=>by
          have h1:id=0:=aaK Prod.fst (HQ.o.trans (by rw[e]<;>exact(rfl:aP T 0 []=(0,0))));exact K_.o h1
         obtain⟨d1,x1,X,ep,-,bf,WW,aN,LB,-⟩:=eP HQ.o.symm aL;have WX:=Ws (jg bS.o.1 _ LB);have iE:=acp (WT.o d1 X ep);have qP:=acp bf;have OI:=acp WW;have u_:=acp aN;have F:acr (dz T A m=(0,setName (aV T d1 X) d B id)):=by
          have h0:lY T A m=0:=by rw[U.o];simp only[if_neg P]
          have h1:(au B (bM T d)).isSome=false:=by rw[kZ Z.o,HJ.o];rfl
          unfold dz zV;rw[<-WS.o,<-HQ.o,ep,h0];simp only[h1,and_self,if_true]
          first|exact rfl|exact trivial
         have dn:∃x3,au d (aV T d1 X)=some x3/\x3.kind=2/\au B x3.names=none:=by
          unfold aV;rw[bB];by_cases hd:d=d1
          ·subst hd;have h2:=qP.o;rw[Z.o]at h2;cases h2;rw[if_pos rfl,Z.o];refine⟨_,rfl,zN.o,?_⟩;show au B (bZ X x.names)=none;rw[eG];split
           ·rfl
           ·exact HJ.o
          ·rw[if_neg hd];exact⟨x,Z.o,zN.o,HJ.o⟩
         obtain⟨x3,aF,WY,-⟩:=dn;have Q8:=acp aF;have WZ:=acp WY;have tH:(bJ x3).length<maxLen:=by
          have h1:=(HT.o.toDg.cut (n:=X) qP.o OI.o);have h2:x3.names.length<=x.names.length:=by
           have K:=Q8.o;unfold aV at K;rw[bB,Z.o]at K;split at K
           ·simp only[aao,aae]at K;rw[<-K];exact abq _ _
           ·simp only[aae]at K;rw[K];exact Nat.le_refl _
          have h4:=HT.o.few Z.o;unfold bJ maxLen;rw[List.length_map];omega
         have Sw:=acp tH;clear P aL ep bf WW aN LB aF WY tH;go_wp2_with (first|(at_lookup;refine aR dD rfl _ _ 194 3 rfl aah (Tryz.gM _) rfl Bo.o B rfl mY ?_;rw[Y.o])|(at_lookup;refine aX aY rfl _ _ 190 193 rfl Tryz.underlying190 (Tryz.bD _) rfl sw.o id rfl J ?_;rw[HG.o]));refine(O.o w2 u.o).mono ?_;rintro e w3 ⟨rfl,C⟩;have E:=acp (u.o.trans (C.mono u.o.size));clear C;go_wp2_with fail;refine(M.o w3 E.o).mono ?_;rintro e w4 ⟨rfl,H⟩;have dI:=acp (E.o.trans (H.mono E.o.size));clear H;go_wp2_with fail;refine(iE.o w4 dI.o).mono ?_;rintro e w5 ⟨rfl,aD⟩;have dK:=acp (dI.o.trans (aD.mono dI.o.size));clear aD;have Ko:=iM.o w5 dK.o;obtain⟨d8,Ad⟩:=mJ Ko qP.o OI.o;have fT:=acp Ko;have aB:=acp Ad;clear Ko Ad;have nQ:acr (∀Q,MapAt dD Q (nb d1) (bZ X (bJ x1))->w5.mapTurned Q (nb d1)->(aK g D Q p mb ib nb (aV T d1 X)/\Keeps (λ b=>g b≠ .none) w5 Q)/\Q.cell? ⟨ib d,7,none⟩=some (.map (some (nb d)))/\MapAt dD Q (nb d) (bJ x3)):=λ Q hM iD=>by
          have K:=Jr fT.o qP.o OI.o hM iD;exact⟨K,mJ K.1 Q8.o WZ.o⟩
         go_wp2_with (first|(at_delete;refine lQ dD rfl _ _ 194 3 rfl aah rfl aB.o X rfl WX ?_;intro Q Kt Vv;obtain⟨aH,d9,W9⟩:=nQ.o Q Kt Vv;have gM:=acp aH;have aJ:=acp W9;clear aH Kt Vv W9)|(at_mapUpdate;refine mW dD rfl _ _ _ 194 3 rfl aah rfl aJ.o Sw.o B (.int .i64 id) rfl rfl mY ?_;intro w7 W_ av;have EK:=acp W_;have gy:=acp av;clear W_ av));go_ret;rw[F.o];exact LA HH.o dK.o gM.o Q8.o WZ.o EK.o gy.o
      ·have jy:(y.kind==2)=false:=by simpa using W
       clear V W;cases I:au B x.names with
       |some j=>
        have Y:acr (au B (bJ x)=some (.int .i64 j)):=by rw[eY,I];rfl
        have zF:acr ((au B x.names).isSome=true):=by rw[I];exact rfl
        rw[I]at U;clear I;by_cases G:j=id
        ·rw[G]at Y U;clear G;have F:acr (dz T A m=(0,T)):=by
          unfold dz;rw[<-WS.o,kZ Z.o,zF.o,U.o];simp only[if_pos,if_neg,and_false,abJ,if_false]
          first|exact rfl|exact trivial
         go_wp2_with (first|(at_lookup;refine aR dD rfl _ _ 194 3 rfl aah (Tryz.gM _) rfl Bo.o B rfl mY ?_;rw[Y.o])|(at_lookup;refine aX aY rfl _ _ 190 193 rfl Tryz.underlying190 (Tryz.bD _) rfl sw.o id rfl J ?_;rw[HG.o]));go_ret;rw[F.o];exact Turn.same HH.o u.o rfl
        ·have bn:(j==id)=false:=by simpa using G
         have F:acr (dz T A m=(21,T)):=DR.o 21 (by rw[U.o];simp only[if_neg G]) (by decide);clear G;go_wp2_with (first|(at_lookup;refine aR dD rfl _ _ 194 3 rfl aah (Tryz.gM _) rfl Bo.o B rfl mY ?_;rw[Y.o])|(at_lookup;refine aX aY rfl _ _ 190 193 rfl Tryz.underlying190 (Tryz.bD _) rfl sw.o id rfl J ?_;rw[HG.o]));go_ret;rw[F.o];exact Turn.same HH.o u.o rfl
       |none=>
        have Y:acr (au B (bJ x)=none):=by rw[eY,I];rfl
        have HJ:=acp I;rw[I]at U;clear I;have WV:=rX bS.o.2;have dV:=jm.o id;have M:=acp (jl.o id (by rw[HY.o];rfl));unfold yG at M;generalize mK T 8 id=dd at U M dV;rw[iT]at U WV;have e1:IntKind.i64.wrap ((R:Int)+(dd:Int))=(R:Int)+(dd:Int):=aaf _ (by omega);by_cases P:8<R+dd
        ·have F:acr (dz T A m=(3,T)):=DR.o 3 (by rw[U.o];simp only[if_pos P]) (by decide);have dM:decide ((8:Int)<(R:Int)+(dd:Int))=true:=by simp only[aap];omega
         clear P;go_wp2_with (first|(at_lookup;refine aR dD rfl _ _ 194 3 rfl aah (Tryz.gM _) rfl Bo.o B rfl mY ?_;rw[Y.o])|(at_lookup;refine aX aY rfl _ _ 190 193 rfl Tryz.underlying190 (Tryz.bD _) rfl sw.o id rfl J ?_;rw[HG.o]));refine(M.o w2 u.o).mono ?_;rintro e w4 ⟨rfl,H⟩;have dI:=acp (u.o.trans (H.mono u.o.size));clear H;go_wp2_with fail;go_ret;rw[F.o];exact Turn.same HH.o dI.o rfl
        ·have dM:decide ((8:Int)<(R:Int)+(dd:Int))=false:=by simp only[aa1];omega
         have aL:A≠[]:=λ e=>by
          have h1:id=0:=aaK Prod.fst (HQ.o.trans (by rw[e]<;>exact(rfl:aP T 0 []=(0,0))));exact K_.o h1
         obtain⟨d1,x1,X,ep,-,bf,WW,aN,LB,-⟩:=eP HQ.o.symm aL;have WX:=Ws (jg bS.o.1 _ LB);have iE:=acp (WT.o d1 X ep);have qP:=acp bf;have OI:=acp WW;have u_:=acp aN;have F:acr (dz T A m=(0,setName (aV T d1 X) d B id)):=by
          have h0:lY T A m=0:=by rw[U.o];simp only[if_neg P]
          have h1:(au B (bM T d)).isSome=false:=by rw[kZ Z.o,HJ.o];rfl
          unfold dz zV;rw[<-WS.o,<-HQ.o,ep,h0];simp only[h1,and_self,if_true]
          first|exact rfl|exact trivial
         have dn:∃x3,au d (aV T d1 X)=some x3/\x3.kind=2/\au B x3.names=none:=by
          unfold aV;rw[bB];by_cases hd:d=d1
          ·subst hd;have h2:=qP.o;rw[Z.o]at h2;cases h2;rw[if_pos rfl,Z.o];refine⟨_,rfl,zN.o,?_⟩;show au B (bZ X x.names)=none;rw[eG];split
           ·rfl
           ·exact HJ.o
          ·rw[if_neg hd];exact⟨x,Z.o,zN.o,HJ.o⟩
         obtain⟨x3,aF,WY,-⟩:=dn;have Q8:=acp aF;have WZ:=acp WY;have tH:(bJ x3).length<maxLen:=by
          have h1:=(HT.o.toDg.cut (n:=X) qP.o OI.o);have h2:x3.names.length<=x.names.length:=by
           have K:=Q8.o;unfold aV at K;rw[bB,Z.o]at K;split at K
           ·simp only[aao,aae]at K;rw[<-K];exact abq _ _
           ·simp only[aae]at K;rw[K];exact Nat.le_refl _
          have h4:=HT.o.few Z.o;unfold bJ maxLen;rw[List.length_map];omega
         have Sw:=acp tH;clear P aL ep bf WW aN LB aF WY tH;go_wp2_with (first|(at_lookup;refine aR dD rfl _ _ 194 3 rfl aah (Tryz.gM _) rfl Bo.o B rfl mY ?_;rw[Y.o])|(at_lookup;refine aX aY rfl _ _ 190 193 rfl Tryz.underlying190 (Tryz.bD _) rfl sw.o id rfl J ?_;rw[HG.o]));refine(M.o w2 u.o).mono ?_;rintro e w4 ⟨rfl,H⟩;have dI:=acp (u.o.trans (H.mono u.o.size));clear H;go_wp2_with fail;refine(iE.o w4 dI.o).mono ?_;rintro e w5 ⟨rfl,aD⟩;have dK:=acp (dI.o.trans (aD.mono dI.o.size));clear aD;have Ko:=iM.o w5 dK.o;obtain⟨d8,Ad⟩:=mJ Ko qP.o OI.o;have fT:=acp Ko;have aB:=acp Ad;clear Ko Ad;have nQ:acr (∀Q,MapAt dD Q (nb d1) (bZ X (bJ x1))->w5.mapTurned Q (nb d1)->(aK g D Q p mb ib nb (aV T d1 X)/\Keeps (λ b=>g b≠ .none) w5 Q)/\Q.cell? ⟨ib d,7,none⟩=some (.map (some (nb d)))/\MapAt dD Q (nb d) (bJ x3)):=λ Q hM iD=>by
          have K:=Jr fT.o qP.o OI.o hM iD;exact⟨K,mJ K.1 Q8.o WZ.o⟩
         go_wp2_with (first|(at_delete;refine lQ dD rfl _ _ 194 3 rfl aah rfl aB.o X rfl WX ?_;intro Q Kt Vv;obtain⟨aH,d9,W9⟩:=nQ.o Q Kt Vv;have gM:=acp aH;have aJ:=acp W9;clear aH Kt Vv W9)|(at_mapUpdate;refine mW dD rfl _ _ _ 194 3 rfl aah rfl aJ.o Sw.o B (.int .i64 id) rfl rfl mY ?_;intro w7 W_ av;have EK:=acp W_;have gy:=acp av;clear W_ av));go_ret;rw[F.o];exact LA HH.o dK.o gM.o Q8.o WZ.o EK.o gy.o
    ·have F:acr (dz T A m=(z,T)):=DR.o z (by rw[Sv.o,if_neg (by simp),if_neg (by simp),if_neg K_.o,if_pos hz]) hz;have bn:(z==0)=false:=by simpa using hz
     have bT:(z !=0)=true:=by simpa using hz
     rw[if_neg hz];clear hz;go_wp2_with fail;go_ret;rw[F.o];exact Turn.same HH.o u.o rfl
  ·have F:acr (dz T A m=(e0,T)):=DR.o e0 (by rw[Sv.o,if_neg (by simp),if_pos he]) he;have bn:(e0==0)=false:=by simpa using he
   have bT:(e0 !=0)=true:=by simpa using he
   clear he;go_wp2_with fail;go_ret;rw[F.o];exact Turn.same HH.o ak.o rfl
 ·have F:acr (dz T A m=(f,T)):=DR.o f (by rw[Sv.o,if_pos hf]) hf;have bn:(f==0)=false:=by simpa using hf
  have bT:(f !=0)=true:=by simpa using hf
  clear hf;go_wp2_with fail;go_ret;rw[F.o];exact Turn.same HH.o ak.o rfl
end
section
variable{g:Nat->Own}{D:Nat->Prop}{p mb:Nat}{ib nb:Int->Nat}{T:aS}
theorem lG.other{B x:Nat}{w w':World}{v u:Value}{A:I8}(h:lG B w x v A u w'){b:Nat}(C:b<w.heap.size)(z:b≠x)(m:v.ownBlock≠some b):w'.heap[b]? =w.heap[b]? /\u.ownBlock≠some b:=
 ⟨h.2.1.block b C λ E=>E.elim z m,λ D=>by
  rcases h.2.2 b D with y|y
  ·exact m y
  ·omega⟩
theorem EL(w:World)(l:I8)(C:l.length<=1000):∃m u,(convert 9 30 (.string (strOf l))).run Tryz.prog w= .ok (.slice (some ⟨w.heap.size,0,none⟩) l.length m) u/\Below w.heap.size w u/\w.heap.size<u.heap.size/\l.length<=m/\ah (λ b=>b=w.heap.size) u (some ⟨w.heap.size,0,none⟩) l.length (l.map bv):=by
 have h:=Lib.run_convert_string_bytes (P:=Tryz.prog) w 9 30 5 (strOf l) aa8 Tryz.underlying30 aa7;rw[jf]at h;refine⟨_,_,h,⟨rfl,rfl,rfl,by rw[Lib.bytesWorld_size];omega,λ k A=>Lib.bytesWorld_at_old w _ _ k A⟩,by rw[Lib.bytesWorld_size];omega,grownCap_ge _ _ _ _,⟨by simp,by unfold maxLen;omega,λ B=>⟨w.heap.size,0,rfl,rfl,by rw[Lib.bytesWorld_size];omega,λ i y=> ?_⟩⟩⟩;rw[Nat.zero_add,Lib.bytesWorld_cell w _ _ i (by rw[jf];exact y)];have z:(strOf l).data.toList=l:=rfl;rw[z,List.getElem?_map,List.getElem?_eq_getElem y,aa4,List.getElem?_eq_getElem y];rfl
structure ItemF(w:World)(D:Nat->Prop)(p mb:Nat)(ib nb:Nat)(k:Int)(x:fI)(T':List (Int×Value))(a:Mx)(c:Nat):Prop where
 c0:w.cell? ⟨ib,0,none⟩=some (.int .i64 k)
 c1:w.cell? ⟨ib,1,none⟩=some (.int .i64 x.kind)
 c2:w.cell? ⟨ib,2,none⟩=some (.int .i64 x.links)
 c3:w.cell? ⟨ib,3,none⟩=some (.int .i64 x.b.length)
 c4:w.cell? ⟨ib,4,none⟩=some (.int .u64 x.aL)
 c5:w.cell? ⟨ib,5,none⟩=some (.bool x.closed)
 c6:w.cell? ⟨ib,6,none⟩=some (.slice a x.b.length c)
 c7:w.cell? ⟨ib,7,none⟩=some (dS x nb)
 row:ah D w a x.b.length (x.b.map bv)
 head:w.cell? ⟨p,0,none⟩=some (.map (some mb))
 map:MapAt aY w mb T'
 names:x.kind=2->MapAt dD w nb (bJ x)
theorem OJ{w:World}(h:aK g D w p mb ib nb T){k:Int}{x:fI}(A:au k T=some x):∃a c,x.b.length<=c/\∀w',Below w.heap.size w w'->ItemF w' D p mb (ib k) (nb k) k x (T.map λ q=>(q.1,ptr (ib q.1))) a c:=by
 obtain⟨⟨a,c,m,u,y⟩,_⟩:=h.item k x A;have B:=(qW.1 m).1;refine⟨a,c,u.1,λ w' C=> ?_⟩;have z:=h.below C acs;obtain⟨I,J,H,K,M,G,F,_⟩:=(z.item k x A).cell;refine⟨I,J,H,K,M,G,?_,F,y.below C acs,z.cell.1,z.map,λ E=>(z.item k x A).names E⟩;rw[C.cell (p:=⟨ib k,6,none⟩) B];simp only[World.cell?,m];rfl
theorem LC(w:World)(h:aK g D w p mb ib nb T)(hT:OkW T)(hf:∀k x,au k T=some x->x.names.length<=65535):Dy 100 #[ptr p] w (gH w (iA T)):=by
 have Nu:=acp h;have X:=acp hT;have Sw:=acp hf;have ig:=hT.len;obtain⟨N,hN⟩:∃N,N=T.length:=⟨_,rfl⟩;have CB:=acp hN;rw[<-hN]at ig;clear h hT hN hf;go_enter Tryz.func100,Tryz.ntmps100;go_wp2_with fail;refine(fG w).mono ?_;rintro e w1 ⟨rfl,cB,ak⟩;have ni:=acp cB;have lI:=acp ak;have h1:=Nu.o.below ak acs;have qM:=ak.size;obtain⟨oO,mq,oD⟩:=h1.cell;have jL:=acp h1.map;have mo:=acp (dH cB (N:Int) (by omega) (by omega) (by simp));clear h1 cB ak;go_wp2_with (at_len;refine kD aY rfl _ 190 193 rfl Tryz.underlying190 rfl jL.o ?_;rw[List.length_map,<-CB.o]);refine mo.o.mono ?_;rintro e w2 ⟨rfl,v2,aL⟩;have av:=acp aL.1;have bS:=acp (lI.o.trans (aL.low ni.o));have EM:=acp (Jy w2 (Nu.o.below bS.o acs) (by rw[<-CB.o];omega));clear aL mo oO mq oD jL lI;go_wp2_with fail;refine EM.o.mono ?_;rintro e w3 ⟨a3,c3,rfl,lN,dM,bf⟩;have nJ:(lT T).length=N:=by unfold lT;rw[List.length_map,CB.o]
 rw[nJ]at lN dM⊢;have gy:=acp (av.o.below bf);have mU:=acp (bS.o.trans (bf.mono bS.o.size));have nQ:=acp dM;have l9:acr (∀b,w2.heap.size<=b->b≠w.heap.size/\v2.ownBlock≠some b):=λ b hb=>⟨by have:=av.o.lt;omega,λ A=>by have:=iK av.o.own b A;omega⟩;clear bf dM EM av;go_wp2_with fail
 go_loopw [22] (λ iv wr=>∃(i:Nat) (v':Value),i<=N/\iv= .int .i64 i/\lG w.heap.size w3 w.heap.size v2 (bF (N:Int) 2++(T.take i).flatMap λ q=>qZ q.1 q.2) v' wr) (λ iv _=>N-(intOf iv).toNat)
 case atStart=>exact⟨0,v2,by omega,rfl,by simpa using lG.refl gy.o⟩
 case round=>
  obtain⟨i,v',hi,rfl,hm⟩:=hrel;have HM:=acp hm;have AQ:=acp (mU.o.trans (hm.low gy.o));clear hm;by_cases dV:i<N
  ·have l6:decide ((i:Int)<(N:Int))=true:=by simpa using dV
   obtain⟨e,A⟩:∃e,T[i]? =some e:=⟨_,List.getElem?_eq_getElem (by have:=CB.o;omega)⟩;obtain⟨k,x⟩:=e;have aB:(k,x)∈T:=aaD A;have hx:au k T=some x:=fq iR X.o.sorted aB;obtain⟨ab,cb,nA,hF⟩:=OJ Nu.o hx;have O1:=acp (X.o.each k x hx);have rE:=X.o.ids k x hx;have nG:aY.ok k:=gG rE.1 (by omega);have HG:acr (au k (T.map λ q=>(q.1,ptr (ib q.1)))=some (ptr (ib k))):=by rw[eH,hx];rfl
   obtain⟨b3,o3,rfl,Gf,jy,jG⟩:=nQ.o.at_ (by omega);have OM:=l9.o b3 Gf.1;have ck:wr.cell? ⟨b3,o3+i,none⟩=some (.int .i64 k):=by
    rw[World.cell?_of_block (w:=w3) (w':=wr) (a:=⟨b3,o3+i,none⟩) (HM.o.other jy OM.1 OM.2).1,jG i dV];unfold lT;rw[List.getElem?_map,List.getElem?_map,A];rfl
   have Y:=hF wr AQ.o;have HF:=acp hF;have HX:=acp hx;have HE:=acp A;have c0:=Y.c0;have c1:=Y.c1;have c2:=Y.c2;have nR:=Y.c3;have c4:=Y.c4;have c5:=Y.c5;have p0:=Y.head;have iM:=acp Y.map;have m:=Oc k x O1.o rE.1 rE.2 wr;unfold vU at m;have OO:=acp m;have qP:(0:Int)<=(i:Int):=by omega
   have p8:(i:Int)<(N:Int):=by omega
   clear hx A aB hF Y m jG;go_wp2_with (first|(at_lookup;refine aX aY rfl _ _ 190 193 rfl Tryz.underlying190 (Tryz.bD _) rfl iM.o k rfl nG ?_;rw[HG.o]));refine OO.o.mono ?_;rintro e w4 ⟨ae,ne,ce,rfl,jm,dn,W⟩;have mR:ne=16:=by have h9:=dn.length;rw[List.length_map,mZ]at h9;omega
   subst mR;obtain⟨P,F⟩:∃P,P=(bF (N:Int) 2++(T.take i).flatMap λ q=>qZ q.1 q.2):=⟨_,rfl⟩;rw[<-F]at HM;have qA:P.length<=84200000:=by
    have h9:=tK X.o Sw.o (T.take i) λ q hq=>aaN hq;rw[List.length_take]at h9;rw[F,List.length_append,ay];omega
   have Vw:=acp F;have OP:=HM.o.1.below W;have zQ:=acp OP;have dI:=acp (AQ.o.trans (W.mono AQ.o.size));have ZO:=HM.o.1.lt;have iE:=acp (pJ OP ae 16 ce (zP k x) dn (λ b hb=>⟨by omega,λ A=>by have:=iK HM.o.1.own b A;omega⟩) jm (by omega) (by omega));have sW:=acp (HM.o.below W);clear F OP dn W jm OO ck c0 c1 c2 nR c4 c5 p0 iM;go_wp2_with fail;refine iE.o.mono ?_;rintro e w5 ⟨rfl,v5,Oe⟩;have CQ:=acp (sW.o.trans Oe);have dK:=acp (dI.o.trans ((Oe.low zQ.o).mono acs));have F5:=HF.o w5 dK.o;have c6:=F5.c6;have qL:=O1.o.size;have Ou:=acp Nu.o.qM;have iT:=acp (pJ Oe.1 ab x.b.length cb x.b F5.row (λ b hb=>⟨by have:=Ou.o b hb;omega,λ A=>by have:=aZ Oe.1.own b A;have:=Ou.o b hb;omega⟩) nA (by simp only[List.length_append,mZ,ay];omega) (by omega));clear Oe F5 iE zQ dI sW;go_wp2_with fail;refine iT.o.mono ?_;rintro e w6 ⟨rfl,v6,Gu⟩;have nP:=acp (dK.o.trans (Gu.low CQ.o.1));have BD:=acp (CQ.o.trans Gu);clear Gu iT c6 CQ dK;have tH:=Sw.o _ _ HX.o;have F6:=HF.o w6 nP.o;have U:=F6.c7;obtain⟨L,hL⟩:∃L,L=x.names.length:=⟨_,rfl⟩;have Kr:=acp hL;have l8:(P++(bF ((16:Nat):Int) 2++zP k x)++(bF (x.b.length:Int) 2++x.b)).length<=84300000:=by simp only[List.length_append,mZ,ay];omega
   have Z:=acp (dH BD.o.1 (L:Int) (by omega) (by omega) (by omega));by_cases B:x.kind=2
   ·have M:dS x (nb k)= .map (some (nb k)):=if_pos B;rw[M]at U;have HN:=acp (F6.names B);have Di:=acp B;clear F6 B M hL;go_wp2_with (at_len;refine kD dD rfl _ 194 3 rfl aah rfl HN.o ?_;rw[bJ,List.length_map,<-Kr.o]);refine Z.o.mono ?_;rintro e G ⟨rfl,v7,Wh⟩;have Nv:=nP.o.trans (Wh.low BD.o.1);have nE:=acp Nv;have EK:=acp (BD.o.trans Wh);have M:dS x (nb k)= .map (some (nb k)):=if_pos Di.o;have U:=(HF.o G Nv).c7;have R:=Tryz.Jw (some (nb k)) G;have z:=sorted_at k x G (Nu.o.below Nv acs) X.o HX.o (Sw.o _ _ HX.o);rw[M]at U z;have mY:(x.names.map (·.1)).length=L:=by rw[List.length_map,Kr.o]
    have O:=acp z;have C:=wall G (.cells #[.map (some (nb k))] 194);clear Wh Nv M z Z BD nP HN;go_wp2_with (go_at_call 170;refine R.mono ?_;rintro e w' ⟨rfl,rfl⟩);refine O.o.mono ?_;rintro e w8 ⟨a8,c8,rfl,bD,vV,jw⟩;rw[mY]at vV bD⊢;have Q:Below G.heap.size G w8:=C.trans (jw.mono C.size);have qY:=acp (nE.o.trans (Q.mono nE.o.size));have Nt:=acp (EK.o.below Q);have ZP:=acp vV;have ZQ:acr (∀b,G.heap.size<b->b≠w.heap.size/\v7.ownBlock≠some b):=λ b hb=>⟨by have:=EK.o.1.lt;omega,λ A=>by have:=iK EK.o.1.own b A;omega⟩;have o7:(G.alloc (.cells #[.map (some (nb k))] 194)).heap.size=G.heap.size+1:=by simp
    clear Q jw C R vV O nE U;go_wp2_with fail
    go_loopw [63] (λ jv bn=>∃(j:Nat) (vj:Value),j<=L/\jv= .int .i64 j/\lG w.heap.size w8 w.heap.size v7 (P++(bF ((16:Nat):Int) 2++zP k x)++(bF (x.b.length:Int) 2++x.b)++bF (L:Int) 2++(x.names.take j).flatMap nmB) vj bn) (λ jv _=>L-(intOf jv).toNat)
    case atStart=>exact⟨0,v7,by omega,rfl,by simpa using lG.refl Nt.o.1⟩
    case round=>
     obtain⟨j,vj,hj,rfl,dN⟩:=hrel;have K:=acp dN;have kN:=acp (qY.o.trans (dN.low Nt.o.1));clear dN;by_cases bT:j<L
     ·have nC:decide ((j:Int)<(L:Int))=true:=by simpa using bT
      obtain⟨en,m⟩:∃en,x.names[j]? =some en:=⟨_,List.getElem?_eq_getElem (by have:=Kr.o;omega)⟩;obtain⟨H,id⟩:=en;have Q9:(H,id)∈x.names:=aaD m;have d9:=fq Sd O1.o.sorted Q9;have oP:H.length<=16:=ru (O1.o.good _ Q9);have aF:=X.o.leads k x HX.o _ Q9;obtain⟨y,hy⟩:=aag.1 aF.1;have iO:0<=id/\id<=65535:=X.o.ids _ _ hy;obtain⟨b8,o8,s,rfl,pU,jc,hs,oC,aH⟩:=ZP.o.cell j bT;rw[List.getElem?_map,List.getElem?_map,m]at hs;obtain rfl:strOf H=s:=by simpa using hs
      have fT:=ZQ.o b8 (by omega);have cn:wr.cell? ⟨b8,o8+j,none⟩=some (.string (strOf H)):=(World.cell?_of_block (w:=w8) (w':=wr) (a:=⟨b8,o8+j,none⟩) (K.o.other jc fT.1 fT.2).1).trans aH;obtain⟨l5,wc,fK,V,oW,LD,I⟩:=EL wr H (by omega);have aC:ah (λ b=>b=wr.heap.size) wc (some ⟨wr.heap.size,0,none⟩) H.length (H.map bv):=I;have jo:=K.o.1.below V;have p9:=K.o.1.lt;have l7:(P++(bF ((16:Nat):Int) 2++zP k x)++(bF (x.b.length:Int) 2++x.b)++bF (L:Int) 2++(x.names.take j).flatMap nmB).length<=85700000:=by
       have h9:=DN (x.names.take j) λ e A=>ru (O1.o.good e (aaN A));rw[List.length_take]at h9;simp only[List.length_append,mZ,ay]at l8⊢;omega
      have mQ:=acp (pJ jo (some ⟨wr.heap.size,0,none⟩) H.length l5 H aC (λ b hb=>⟨by rw[hb];omega,λ A=>by have:=iK K.o.1.own b A;omega⟩) LD (by omega) (by omega));have lC:=acp (K.o.below V);have LG:=acp (kN.o.trans (V.mono kN.o.size));have Jk:=acp d9;have iN:=acp m;have qN:(0:Int)<=(j:Int):=by omega
      have qb:L<=65535:=by have:=Kr.o;omega
      have ew:IntKind.i64.wrap ((j:Int)+1)=(j:Int)+1:=aaf _ (by omega);have oU:(j:Int)<(L:Int):=by omega
      clear m Q9 d9 aF hy hs oC aH aC jo V I;go_wp2_with fail;refine mQ.o.mono ?_;rintro e AO ⟨rfl,pF,S⟩;have aJ:=acp (lC.o.trans S);have Xb:=acp (LG.o.trans (S.low lC.o.1));have bq:=HF.o AO Xb.o;have U:=bq.c7;have M:dS x (nb k)= .map (some (nb k)):=if_pos Di.o;rw[M]at U;have kW:=acp (bq.names Di.o);have ko:acr (au H (bJ x)=some (.int .i64 id)):=by rw[eY,Jk.o];rfl
      have kg:H.length<=maxLen:=by unfold maxLen;omega
      have nS:=acp (dH aJ.o.1 id iO.1 (by omega) (by simp only[List.length_append,mZ,ay]at l7⊢;omega));clear S bq M fK;go_wp2_with (at_lookup;refine aX dD rfl _ _ 194 3 rfl aah (Tryz.gM _) rfl kW.o H rfl kg ?_;rw[ko.o]);refine nS.o.mono ?_;rintro e o9 ⟨rfl,oF,aD⟩;have OQ:=aJ.o.trans aD;have iD:P++(bF ((16:Nat):Int) 2++zP k x)++(bF (x.b.length:Int) 2++x.b)++bF (L:Int) 2++(x.names.take j).flatMap nmB++(bF (H.length:Int) 2++H)++bF id 2=P++(bF ((16:Nat):Int) 2++zP k x)++(bF (x.b.length:Int) 2++x.b)++bF (L:Int) 2++(x.names.take (j+1)).flatMap nmB:=by
       rw[abu,iN.o,abF];simp[nmB,qO,List.append_assoc]
      rw[iD]at OQ;have jl:=acp OQ;clear OQ iD aD;go_wp2_with fail;go_roundw
      case rel=>exact⟨j+1,oF,by omega,by go_num,jl.o⟩
      case measure=>
       simp only[intOf];omega
     ·have nC:decide ((j:Int)<(L:Int))=false:=by simpa using bT
      have u:P++(bF ((16:Nat):Int) 2++zP k x)++(bF (x.b.length:Int) 2++x.b)++bF (L:Int) 2++(x.names.take j).flatMap nmB=(bF (N:Int) 2++(T.take (i+1)).flatMap λ q=>qZ q.1 q.2):=by
       rw[List.take_of_length_le (show x.names.length<=j by have:=Kr.o;omega),Vw.o,abu,HE.o,abF,Kr.o];simp[qZ,qO,mZ,List.append_assoc]
      have E:=Nt.o.trans K.o;rw[u]at E;have aN:=acp E;clear E u;go_wp2_with fail;go_roundw
      case rel=>exact⟨i+1,vj,by omega,by go_num,aN.o⟩
      case measure=>simp[intOf];omega
   ·have M:dS x (nb k)= .map none:=if_neg B;have J:x.names=[]:=O1.o.file (O1.o.kind.resolve_right B);obtain rfl:L=0:=by rw[hL,J];rfl
    rw[M]at U;have aA:acr (Dy 76 #[ptr w.heap.size,.int .i64 0] w6 (pz w.heap.size w6 w.heap.size v6 (P++(bF ((16:Nat):Int) 2++zP k x)++(bF (x.b.length:Int) 2++x.b)++bF ((0:Nat):Int) 2))):=Z.o;clear F6 B hL;go_wp2_with fail;refine aA.o.mono ?_;rintro e G ⟨rfl,v7,Wh⟩;have Nv:=nP.o.trans (Wh.low BD.o.1);have nE:=acp Nv;have EK:=acp (BD.o.trans Wh);have U:=(HF.o G Nv).c7;have R:=Tryz.Jw none G;have z:=sorted_at k x G (Nu.o.below Nv acs) X.o HX.o (Sw.o _ _ HX.o);rw[M]at U z;rw[J]at z;have O:=acp z;have gM:=acp J;have C:=wall G (.cells #[.map none] 194);clear Wh Nv M z Z aA BD nP J;go_wp2_with (go_at_call 170;refine R.mono ?_;rintro e w' ⟨rfl,rfl⟩);refine O.o.mono ?_;rintro e w8 ⟨a8,c8,rfl,bD,vV,jw⟩;have Nt:=acp (EK.o.below (C.trans (jw.mono C.size)));simp only[abn,List.length_nil]at bD⊢;clear jw C R vV O nE U;have u:P++(bF ((16:Nat):Int) 2++zP k x)++(bF (x.b.length:Int) 2++x.b)++bF ((0:Nat):Int) 2=(bF (N:Int) 2++(T.take (i+1)).flatMap λ q=>qZ q.1 q.2):=by
     rw[Vw.o,abu,HE.o,abF];simp[qZ,qO,mZ,gM.o,List.append_assoc]
    have E:=Nt.o;rw[u]at E;have aN:=acp E;clear E u Nt EK;go_wp2_with fail
    go_loopw [63] (λ jv bn=>jv= .int .i64 0/\bn=w8) (λ jv _=>0)
    case atStart=>exact⟨rfl,rfl⟩
    case round=>
     obtain⟨rfl,rfl⟩:=hrel;go_wp2_with fail;go_roundw
     case rel=>exact⟨i+1,v7,by omega,by go_num,aN.o⟩
     case measure=>simp[intOf];omega
  ·have l6:decide ((i:Int)<(N:Int))=false:=by simpa using dV
   have gL:(bF (N:Int) 2++(T.take i).flatMap λ q=>qZ q.1 q.2)=iA T:=by
    rw[List.take_of_length_le (by have:=CB.o;omega),CB.o];rfl
   have om:(iA T).length<=100000000:=by
    have:=tK X.o Sw.o T λ q hq=>hq;unfold iA;rw[List.length_append,ay];have:=CB.o;omega
   have HD:=acp (iZ HM.o.1 (by rw[gL];exact om));rw[gL]at HD;go_wp2_with fail;refine HD.o.mono ?_;rintro e w9 ⟨a9,n9,c9,rfl,Dj,lX,dG⟩;have Dk:=acp lX;have pK:=acp (AQ.o.trans (dG.mono AQ.o.size));have pE:=AQ.o.size;clear lX dG;go_wp2_with fail;go_ret;exact⟨a9,n9,c9,rfl,Dj,Dk.o.mono λ b hb=>⟨by omega,hb.2⟩,pK.o⟩
theorem save_at(w:World)(h:aK g D w p mb ib nb T)(m:fA T):Dy 100 #[ptr p] w (gH w (iA T)):=
 LC w h m λ k x u=>by have:=m.few u;omega
end
