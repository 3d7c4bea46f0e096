/- permafrostref13: Forget. permafrostref2: turned words, plainly. permafrostref2.Sum, plainly: what is hashed in one go is what is hashed block by block. permafrostref2.Sum, plainly: the words, one behind the other; none is below nought. A block that is laid anew as a whole; a struct result that lies in a variable. -/
import Derived.Test.YtohpcppeajijnaaGreatM38
import Derived.Test.YtohpcppeajijnaaGreatM25
import Derived.Test.YtohpcppeajijnaaGreatM27
import Derived.Test.YtohpcppeajijnaaGreatM23
import Derived.Laws.BitsAllLaws
import Derived.Test.YtohpcppeajijnaaGreatM03
import Derived.Laws.Tables
import Derived.Laws.Rows
namespace Go.Proofs.YtohpcppeajijnaaGreat
open Go.ChangeShapes Go.WideShapes Go.ChangeAt Go.RowKit
set_option linter.unusedVariables false
set_option linter.unusedSimpArgs false
theorem Dv {T:aI} {now:Int}:sP T now=decide (0<(fu T now).length):=rfl
theorem wR {S S1 S2:iC} {id now e1 e2:Int} (h1:iq S id now e1 S1) (h2:iq S id now e2 S2):e1=e2∧S1=S2:=by
 have first:∀{k k':Nat} {x x':dQ},S.l[k]? =some x→x.id=id→(∀y∈S.l.take k',y.id≠id)→S.l[k']? =some x'→¬k<k':=fun{k k' x x'} hx hid hno hx' hlt=>by
  refine hno x ?_ hid
  have hk:=(List.getElem?_eq_some_iff.1 hx)
  rw[List.mem_iff_getElem?]
  exact⟨k,by rw[List.getElem?_take,if_pos hlt];exact hx⟩
 rcases h1 with⟨rfl,rfl,hn⟩|⟨k,x,hx,hid,hno,h1⟩
 ·rcases h2 with⟨rfl,rfl,_⟩|⟨k',x',hx',QT,_⟩
  ·exact⟨rfl,rfl⟩
  ·exact absurd QT (hn x' (List.mem_of_getElem? hx'))
 ·rcases h2 with⟨rfl,rfl,hn⟩|⟨k',x',hx',QT,hno',h2⟩
  ·exact absurd hid (hn x (List.mem_of_getElem? hx))
  ·have hkk:k=k':=by
    have a1:=first hx hid hno' hx'
    have a2:=first hx' QT hno hx
    omega
   subst hkk
   rw[hx]at hx'
   obtain rfl:=Option.some.inj hx'
   rcases h1 with⟨b1,rfl,rfl⟩|⟨b1,rfl,rfl⟩<;>rcases h2 with⟨b2,rfl,rfl⟩|⟨b2,rfl,rfl⟩
   ·exact⟨rfl,rfl⟩
   ·rw[b1]at b2;cases b2
   ·rw[b1]at b2;cases b2
   ·exact⟨rfl,rfl⟩
section
variable {W w:World} {o:Mark} {i s:Nat} {S:iC}
set_option maxRecDepth 100000 in
set_option maxHeartbeats 8000000 in
theorem Bq (hS:fM o i w s S) (hM:Marks W o w) (hi:i≠0) (zY:S.l.length≤8) (id now:Int):
  Calls Tryz.prog 101 #[ptr s, .int .i64 id, .int .u64 now] w fun e w'=>∃er S',e= .returned (.int .i64 er)∧iq S id now er S'∧Step o (fun k=>k=i) w o w'∧fM o i w' s S':=by
 obtain⟨iO,Uu⟩:∃j,Tryz.prog.info? 162=some j∧j.zero=some (.agg #[.int .i64 0, .slice none 0 0, .pointer none])∧j.size=3∧j.bytes=40:=info_parts (by kernel_rfl)
 have pU:=Lib.hid Uu
 have HS:=Lib.hid hS
 have HM:=Lib.hid hM
 obtain⟨la,lc,a,c,vals,h1,h2,h3,h4,h5,h6,h7,h8⟩:=hS.at_
 have HH:=Lib.hid h1
 have uR:=Lib.hid h6
 have M4:=Lib.hid h8
 have PD:=Lib.hid h7
 have MW:=Lib.hid h2
 obtain⟨n,hn⟩:∃n,n=S.l.length:=⟨_,rfl⟩
 have HN:=Lib.hid hn
 rw[←hn]at h1 h4 h5 zY
 have gZ:=Lib.hid h5
 have uI:Hid (∀w',Below w.heap.size w w'→w'.cell? ⟨s,2,none⟩=some (.slice a n c)∧w'.frozen? ⟨s,2,none⟩=false):=fun w' hb=>by
  have hbb:=(hb.block s h3).trans h1
  refine⟨?_,?_⟩<;>simp[World.cell?,World.frozen?,hbb]
 clear hS hM h1 h2 h5 h6 h7 h8 hn Uu
 go_enter Tryz.func101,Tryz.ntmps101
 go_wp2_with fail
 go_loopw [7] (fun iv wr=>∃k:Nat,iv= .int .i64 k∧k≤n∧(∀x∈S.l.take k,x.id≠id)∧Below w.heap.size w wr) (fun iv _=>n-(intOf iv).toNat)
 case atStart=>exact⟨0,rfl,by omega,by simp,Below.refl _ _⟩
 case round=>
  obtain⟨k,rfl,hk,hno,hb⟩:=hrel
  have Em:=Lib.hid hno
  have HB:=Lib.hid hb
  obtain⟨c2,cf⟩:=uI.out wr hb
  clear hno
  by_cases hlt:k<n
  ·have hd:decide (k<n)=true:=by simpa using hlt
   obtain⟨x,hx⟩:∃x,S.l[k]? =some x:=⟨S.l[k]'(by rw[←HN.out];exact hlt),List.getElem?_eq_getElem _⟩
   have HRW:=gZ.out
   obtain⟨g,off,rfl,hgw,_,hcell⟩:=HRW.at_ (by omega)
   obtain⟨ha,hcp,q,e0,e1,e2,e3,e4,e5,e6⟩:=uR.out.at_ hx
   have d0:wr.cell? ⟨g,off+k*3,none⟩=some (.int .i64 x.id):=(hb.cell (p:=⟨g,off+k*3,none⟩) hgw.2).trans ((hcell (k*3) (by omega)).trans e0)
   have d2:wr.cell? ⟨g,off+k*3+2,none⟩=some (ptr q):=(hb.cell (p:=⟨g,off+k*3+2,none⟩) hgw.2).trans ((hcell (k*3+2) (by omega)).trans e2)
   have QS:=Lib.hid (GK (e5.grow hb) e6 now)
   have HX:=Lib.hid hx
   have i0:(0:Int)≤k:=by omega
   have i1:(k:Int)<n:=by omega
   have Ti:(k:Int)≤c:=by omega
   have i2:(k:Int)+1≤n:=by omega
   have i3:(0:Int)≤(k:Int)+1:=by omega
   have i4:(n:Int)≤c:=by omega
   have ew:IntKind.i64.wrap ((k:Int)+1)=(k:Int)+1:=IntWalk.i64_in _ (by omega)
   clear hx hcell e0 e1 e2 e3 e4 e5 e6 HRW
   by_cases he:x.id=id
   ·rw[he]at d0
    have HE:=Lib.hid he
    clear he
    go_wp2_with fail
    (with_reducible refine QS.out.mono ?_)
    rintro e w1 ⟨la1,lc1,rfl,hb1⟩
    have HB1:=Lib.hid (HB.out.trans (hb1.mono HB.out.size))
    obtain⟨m,hm⟩:∃m,m=(fu x.t now).length:=⟨_,rfl⟩
    rw[←hm]
    have PI:Hid (sP x.t now=decide (0<m)):=by
     show sP x.t now=_
     rw[Dv,hm]
    obtain⟨c2',cf'⟩:=uI.out w1 HB1.out
    clear hb1 hm c2 cf
    by_cases hpos:0<m
    ·have VI:decide (0<m)=true:=by simpa using hpos
     rw[VI]at PI
     have hpd2:decide ((0:Int)<(m:Int))=true:=by simp;omega
     go_wp2_with fail
     go_ret
     exact⟨28,S,rfl, .inr ⟨k,x,HX.out,HE.out,Em.out, .inl ⟨PI.out,rfl,rfl⟩⟩,Step.grow HM.out HB1.out,HS.out.grow HM.out HB1.out⟩
    ·have VI:decide (0<m)=false:=by simpa using hpos
     rw[VI]at PI
     have hm0:m=0:=by omega
     subst hm0
     clear hpos VI
     have lH:Hid (∀wx,Below w1.heap.size w1 wx→ak (Free o w) wx (some ⟨g,off,none⟩) (k*3) (vals.take (k*3))∧ak (Free o w) wx (if c=k+1 then some ⟨g,off,none⟩else some ⟨g,off+(k+1)*3,none⟩) ((n-(k+1))*3) (vals.drop ((k+1)*3))):=fun wx hx=>by
      rcases yB gZ.out hlt (HB1.out.trans (hx.mono HB1.out.size)) (c:=c)with h9|h9
      ·exact h9
      ·omega
     have gq:Hid (∀wx,Below w1.heap.size w1 wx→wx.cell? ⟨s,2,none⟩=some (.slice (some ⟨g,off,none⟩) n c)∧wx.frozen? ⟨s,2,none⟩=false):=fun wx hx=>uI.out wx (HB1.out.trans (hx.mono HB1.out.size))
     have GL:=Lib.hid uR.out.one
     go_wp2_with fail
     refine wp_region_noPanic ?_
     refine aH (last:=19) (S:=(fun w'=>w'.cell? ⟨s,2,none⟩=some (.slice (some ⟨g,off,none⟩) n c)∧w'.frozen? ⟨s,2,none⟩=false)) (by kernel_rfl) ?_ (fun hS=> ?_)
     ·exact gq.out _ (Below.refl _ _).drew
     refine aC 0 (hS:=hS) (h:= ?_)
     refine aC 2 (hS:=hS) (h:= ?_)
     refine aC 3 (hS:=hS) (h:= ?_)
     refine aC 4 (hS:=hS) (h:= ?_)
     refine aC 5 (hS:=hS) (h:= ?_)
     refine aC 6 (hS:=hS) (h:= ?_)
     refine aC 7 (hS:=hS) (h:= ?_)
     refine aC 9 (hS:=hS) (h:= ?_)
     refine aC 10 (hS:=hS) (h:= ?_)
     refine aC 11 (hS:=hS) (h:= ?_)
     refine aC 12 (hS:=hS) (h:= ?_)
     refine aC 13 (hS:=hS) (h:= ?_)
     refine aC 14 (hS:=hS) (h:= ?_)
     refine aC 15 (hS:=hS) (h:= ?_)
     refine dh 1 (h:=fun K hK=> ?_)
     go_simp
     refine hK.out _ _ (fun _=>gq.out _ ((Below.refl _ _).drew.alloc (Nat.le_refl _) _)) (fun hS=> ?_)
     replace hS:=hS (by decide)
     clear hK K
     try simp only[Act.put,List.setIfInBounds_toArray,List.set_cons_zero,List.set_cons_succ]
     refine aj (rs:=[8]) (by kernel_rfl) (by simp) ?_
     refine ah.cons (o:= ?o1) ?ho1 (fun K hK=> ?_) ah.nil
     case ho1=>simp only[List.getElem?_toArray,List.getElem?_cons_succ,List.getElem?_cons_zero];rfl
     refine au (by rfl) (.tmp 40) (.tmp 46) 158 (by rfl) w1.heap.size 162 iO _ 3 40 Tryz.underlying158 pU.out.1 pU.out.2.1 pU.out.2.2.1 pU.out.2.2.2 rfl (by omega) _ 0 [] (by rfl) (bZ (MapKept.heap_alloc w1.drew _).1 (Nat.le_refl _)) _ k _ (vals.take (k*3)) (by rfl) (lH.out _ ((Below.refl _ _).drew.alloc (Nat.le_refl _) _)).1 (fun u hu=>GL.out u (List.mem_of_mem_take hu)) (by unfold maxLen;omega) (by omega) (by simp) ?_
     intro A1 c1 w2 hown1 hb2
     have hB2:Below w1.heap.size w1 w2:=((Below.refl _ _).drew.alloc (Nat.le_refl _) _).trans hb2
     refine hK.out _ _ (fun _=>gq.out _ hB2) (fun hS=> ?_)
     replace hS:=hS (by decide)
     clear hK K
     try simp only[Act.put,List.setIfInBounds_toArray,List.set_cons_zero,List.set_cons_succ]
     refine aj (rs:=[16]) (by kernel_rfl) (by simp) ?_
     refine ah.cons (o:= ?o2) ?ho2 (fun K hK=> ?_) ah.nil
     case ho2=>simp only[List.getElem?_toArray,List.getElem?_cons_succ,List.getElem?_cons_zero];rfl
     refine au (by rfl) (.tmp 47) (.tmp 54) 158 (by rfl) w1.heap.size 162 iO _ 3 40 Tryz.underlying158 pU.out.1 pU.out.2.1 pU.out.2.2.1 pU.out.2.2.2 rfl (by omega) _ _ _ (by rfl) hown1 _ (n-(k+1)) _ (vals.drop ((k+1)*3)) (by rfl) (lH.out _ hB2).2 (fun u hu=>GL.out u (List.mem_of_mem_drop hu)) (by unfold maxLen;omega) (by omega) hB2.size ?_
     intro A2 c2 w3 hown2 hb3
     have hB3:Below w1.heap.size w1 w3:=hB2.trans hb3
     refine hK.out _ _ (fun _=>gq.out _ hB3) (fun hS=> ?_)
     replace hS:=hS (by decide)
     clear hK K
     try simp only[Act.put,List.setIfInBounds_toArray,List.set_cons_zero,List.set_cons_succ]
     refine aC 17 (hS:=hS) (h:= ?_)
     refine aC 18 (hS:=hS) (h:= ?_)
     refine dh 19 (h:=fun K hK=> ?_)
     go_simp
     refine hK.out _ _ (fun h=>absurd rfl h) (fun hS=> ?_)
     clear hS hK K
     try simp only[Act.put,List.setIfInBounds_toArray,List.set_cons_zero,List.set_cons_succ]
     refine aG (by kernel_rfl) ?_ _
     refine NoPanic.normal ?_
     have xq:=Lib.hid hown2
     have HB3:=Lib.hid (HB1.out.trans (hB3.mono HB1.out.size))
     clear hown1 hown2 hb2 hb3 hB2 hB3
     go_wp2_with fail
     all_goals (
      go_ret
      obtain⟨-,hcc,-,hrow2⟩:=ak.jS xq.out (by unfold maxLen;omega)
      rw[List.nil_append,Nat.zero_add]at hrow2
      rw[Nat.zero_add]at hcc
      have hln:(zA S k).l.length=k+(n-(k+1)):=by
       show(S.l.take k++S.l.drop (k+1)).length=_
       have:=HN.out
       rw[List.length_append,List.length_take,List.length_drop]
       omega
      rw[←hln]at hrow2 hcc⊢
      have h1s:=HB1.out.size
      have h3s:=HB3.out.size
      have hK:Keeps (fun b=>b=s) w (w3.setCell ⟨s,2,none⟩ (.slice A2 (zA S k).l.length c2)):=(fU HB3.out).trans (Keeps.fE w3 ⟨s,2,none⟩ _) fun x _ hx=>hx
      have hst:=Bo (i:=i) HM.out MW.out hK
      have hi0:¬(fun j=>j=i) 0:=fun e=>hi e.symm
      have hh8:(w3.setCell ⟨s,2,none⟩ (.slice A2 (zA S k).l.length c2)).heap[s]? =some (.cells #[.int .i64 S.next, .slice la S.last.length lc, .slice A2 (zA S k).l.length c2] 160 (0,0)):=aL ((HB3.out.block s h3).trans HH.out)
      refine⟨0,rfl,zA S k, .inr ⟨k,x,HX.out,HE.out,Em.out, .inr ⟨PI.out,rfl,rfl⟩⟩,hst,⟨la,lc,A2,c2,_,hh8,MW.out,by rw[size_set];omega,hcc,?_,((uR.out.take k).append (uR.out.drop (k+1))).step hi0 hst,PD.out,M4.out.free hi0 hst⟩⟩
      refine Bp (B:=w1.heap.size) HM.out (by omega) (hrow2.move (by rw[size_set];omega) fun b hb hbw=>⟨⟨hb.1,by rw[size_set];exact hb.2⟩,aP _ _ _ _ ?_⟩)
      show b≠s
      have:=hb.1
      omega)
   ·have hed:(x.id==id)=false:=by simpa using he
    have HE:=Lib.hid he
    clear he QS
    go_wp2_with fail
    go_roundw
    case rel=>
     refine⟨k+1,by go_num,by omega,fun y hy=> ?_,HB.out⟩
     obtain⟨hkl,ek⟩:=List.getElem?_eq_some_iff.1 HX.out
     rw[List.take_succ_eq_append_getElem hkl,ek]at hy
     rcases List.mem_append.1 hy with hy|hy
     ·exact Em.out y hy
     ·simp only[List.mem_singleton]at hy
      rw[hy];exact HE.out
    case measure=>simp[intOf];omega
  ·have hd:decide (k<n)=false:=by simpa using hlt
   have hall:∀x∈S.l,x.id≠id:=fun x hx=>Em.out x (by
    rw[List.take_of_length_le (by have:=HN.out;omega)]
    exact hx)
   have qz:=Lib.hid hall
   clear hall
   go_wp2_with fail
   go_ret
   exact⟨29,S,rfl, .inl ⟨rfl,rfl,qz.out⟩,Step.grow HM.out HB.out,HS.out.grow HM.out HB.out⟩
end
theorem K_ (a b:Int):qh a b=qh b a:=by simp only[qh,bits,BitVec.or_comm]
theorem GN (x:Int) (n:Nat) (w:World) (hx:0≤x) (h0:0<n) (h1:n<32):Calls Tryz.prog 106 #[.int .u32 x, .int .u64 (n:Int)] w fun e w'=>e= .returned (.int .u32 (iF x (32-n)))∧w=w':=by
 have e1:(0:Int)≤(n:Int):=by omega
 have e2:(n:Int)≤32:=by omega
 have e3:IntKind.u64.wrap (32-(n:Int))=32-(n:Int):=by simp[IntKind.wrap,IntKind.bits,IntKind.signed];omega
 have e4:(0:Int)≤32-(n:Int):=by omega
 have e5:32-(n:Int)≤32:=by omega
 go_enter Tryz.func106,Tryz.ntmps106
 go_wp2
 go_ret
 refine⟨?_,rfl⟩
 unfold iF
 rw[K_,show 32-(32-n)=n by omega]
 have e6:(32-(n:Int)).toNat=32-n:=by omega
 rfl
theorem EF (x y:Nat) (hx:x<4294967296) (hy:y<4294967296):x|||y<4294967296:=Nat.or_lt_two_pow (n:=32) hx hy
theorem La (d:Nat) (hd:d<4294967296):qh 0 (d:Int)=(d:Int):=by
 have h:=u32_or_nat 0 d (by decide) hd
 rw[Nat.zero_or]at h
 exact h
theorem Nt (a b c d:Nat) (ha:a<4294967296) (hb:b<4294967296) (hc:c<4294967296) (hd:d<4294967296):qh (qh (qh (a:Int) (b:Int)) (c:Int)) (d:Int)=qh (qh (qh (qh 0 (d:Int)) (c:Int)) (b:Int)) (a:Int):=by
 rw[La d hd]
 have h1:=EF _ _ ha hb
 have h2:=EF _ _ h1 hc
 have k1:=EF _ _ hd hc
 have k2:=EF _ _ k1 hb
 have e1:qh (qh (qh (a:Int) (b:Int)) (c:Int)) (d:Int)=((((a|||b)|||c)|||d:Nat):Int):=by
  simp only[qh]
  rw[u32_or_nat _ _ ha hb,u32_or_nat _ _ h1 hc,u32_or_nat _ _ h2 hd]
 have e2:qh (qh (qh (d:Int) (c:Int)) (b:Int)) (a:Int)=((((d|||c)|||b)|||a:Nat):Int):=by
  simp only[qh]
  rw[u32_or_nat _ _ hd hc,u32_or_nat _ _ k1 hb,u32_or_nat _ _ k2 ha]
 rw[e1,e2]
 congr 1
 ac_rfl
theorem Nu (a b c d:UInt8):qh (qh (qh ((a.toNat:Int)*16777216) ((b.toNat:Int)*65536)) ((c.toNat:Int)*256)) (d.toNat:Int)=tX a b c d:=by
 have ha:=a.toNat_lt
 have hb:=b.toNat_lt
 have hc:=c.toNat_lt
 have hd:=d.toNat_lt
 have h:=Nt (a.toNat*16777216) (b.toNat*65536) (c.toNat*256) d.toNat (by omega) (by omega) (by omega) (by omega)
 unfold tX
 rw[show(d.toNat:Int)%4294967296=(d.toNat:Int)by omega,show(c.toNat:Int)%4294967296*256%4294967296=((c.toNat*256:Nat):Int)by omega,show(b.toNat:Int)%4294967296*65536%4294967296=((b.toNat*65536:Nat):Int)by omega,show(a.toNat:Int)%4294967296*16777216%4294967296=((a.toNat*16777216:Nat):Int)by omega,←h]
 rw[show(a.toNat:Int)*16777216=((a.toNat*16777216:Nat):Int)by omega,show(b.toNat:Int)*65536=((b.toNat*65536:Nat):Int)by omega,show(c.toNat:Int)*256=((c.toNat*256:Nat):Int)by omega]
theorem Br:∀(a b:Nat) (h:List Int) (X:List UInt8),runM h (a+b) X=runM (runM h a X) b (X.drop (64*a))
 |0,b,h,X=>by simp[runM]
 |a+1,b,h,X=>by
  rw[show a+1+b=(a+b)+1 by omega]
  show runM (eH h (X.take 64)) (a+b) (X.drop 64)=runM (runM (eH h (X.take 64)) a (X.drop 64)) b (X.drop (64*(a+1)))
  rw[Br a b,List.drop_drop,show 64+64*a=64*(a+1)by omega]
theorem qG:∀(a:Nat) (h:List Int) (X Y:List UInt8),64*a≤X.length→runM h a (X++Y)=runM h a X
 |0,_,_,_,_=>rfl
 |a+1,h,X,Y,hl=>by
  show runM (eH h ((X++Y).take 64)) a ((X++Y).drop 64)=runM (eH h (X.take 64)) a (X.drop 64)
  rw[List.take_append_of_le_length (by omega),List.drop_append_of_le_length (by omega)]
  exact qG a _ _ _ (by rw[List.length_drop];omega)
theorem GQ (a:Nat) (h:List Int) (X:List UInt8) (hl:64*a≤X.length):runM h a X=runM h a (X.take (64*a)):=by
 have h1:=qG a h (X.take (64*a)) (X.drop (64*a)) (by rw[List.length_take];omega)
 rwa [List.take_append_drop]at h1
theorem Dw (n:Nat):iX (n-n/64*64)=iX n:=by
 unfold iX
 have:(n-n/64*64)%64=n%64:=by omega
 rw[this]
theorem GR (bs:List UInt8):kN bs bs.length=bs.take (bs.length/64*64)++kN (bs.drop (bs.length/64*64)) bs.length:=by
 unfold kN
 rw[List.length_drop,Dw]
 conv=>lhs;rw[←List.take_append_drop (bs.length/64*64) bs]
 simp only[List.append_assoc,List.length_append,List.length_take,List.length_drop]
 rw[show min (bs.length/64*64) bs.length+(bs.length-bs.length/64*64)=bs.length by omega]
theorem Lb (bs:List UInt8):iG bs=uE (runM oJ ((kN bs bs.length).length/64) (kN bs bs.length)):=by
 have hs:=GR bs
 have ht:(bs.take (bs.length/64*64)).length=64*(bs.length/64):=by rw[List.length_take];omega
 have hl:(kN bs bs.length).length/64=bs.length/64+(kN (bs.drop (bs.length/64*64)) bs.length).length/64:=by
  rw[hs,List.length_append,ht]
  omega
 rw[hl,Br]
 unfold iG
 have e1:runM oJ (bs.length/64) (kN bs bs.length)=runM oJ (bs.length/64) bs:=by
  rw[hs,qG _ _ _ _ (by omega),GQ (bs.length/64) oJ bs (by omega),Nat.mul_comm]
 have e2:(kN bs bs.length).drop (64*(bs.length/64))=kN (bs.drop (bs.length/64*64)) bs.length:=by
  conv=>lhs;rw[hs]
  rw[←ht,List.drop_left']
  rfl
 rw[e1,e2]
def mU (b:List UInt8) (j:Nat):List Int:=if j≤16 then(List.range j).map (oK b)else dI b (j-16)
theorem GU (b:List UInt8):mU b 0=[]:=rfl
theorem Lc (b:List UInt8) (j:Nat):(mU b j).length=j:=by
 unfold mU
 split
 ·simp
 ·rw[lD];omega
theorem EG (b:List UInt8) {j:Nat} (h:16≤j):mU b j=dI b (j-16):=by
 unfold mU
 split
 ·have:j=16:=by omega
  subst this
  rfl
 ·rfl
theorem EH (b:List UInt8) {j:Nat} (h:j<16):mU b (j+1)=mU b j++[oK b j]:=by
 unfold mU
 rw[if_pos (by omega),if_pos (by omega),List.range_succ,List.map_append]
 rfl
theorem EI (b:List UInt8) {j:Nat} (h:16≤j):mU b (j+1)=mU b j++[tY (mU b j)]:=by
 rw[EG b h,EG b (by omega),show j+1-16=(j-16)+1 by omega]
 rfl
theorem Ld (b:List UInt8):mU b 64=dI b 48:=rfl
theorem Nv (a b:Int):0≤qh a b:=by
 simp only[qh,bits,IntKind.bits,IntKind.signed]
 simp[IntKind.wrap,IntKind.bits,IntKind.signed]
 omega
theorem Le (a b c d:UInt8):0≤tX a b c d:=Nv _ _
theorem zN (z:Int):0≤zW z:=Int.emod_nonneg _ (by decide)
theorem jU {l:List Int} (h:∀x∈l,0≤x) (i:Nat):0≤l.getD i 0:=by
 rw[List.getD_eq_getElem?_getD]
 cases hx:l[i]? with
 |none=>exact Int.le_refl 0
 |some x=>exact h x (List.mem_of_getElem? hx)
theorem zO (b:List UInt8):∀j,∀x∈mU b j,0≤x
 |0,x,hx=>by rw[GU]at hx;cases hx
 |j+1,x,hx=>by
  by_cases h:j<16
  ·rw[EH b h]at hx
   rcases List.mem_append.1 hx with hx|hx
   ·exact zO b j x hx
   ·rw[List.mem_singleton.1 hx];exact Le _ _ _ _
  ·rw[EI b (by omega)]at hx
   rcases List.mem_append.1 hx with hx|hx
   ·exact zO b j x hx
   ·rw[List.mem_singleton.1 hx];exact zN _
structure pF.Nn (s:pF):Prop where
 a:0≤s.a
 c:0≤s.c
 d:0≤s.d
 e:0≤s.e
 f:0≤s.f
 g:0≤s.g
 h:0≤s.h
 j:0≤s.j
theorem pF.Uv {h:List Int} (hn:∀x∈h,0≤x):(pF.of h).Nn:=⟨jU hn 0,jU hn 1,jU hn 2,jU hn 3,jU hn 4,jU hn 5,jU hn 6,jU hn 7⟩
theorem pF.Nn.round {s:pF} (h:s.Nn) (k w:Int):(qw s k w).Nn:=⟨zN _,h.a,h.c,h.d,zN _,h.f,h.g,h.h⟩
theorem pF.yK {s:pF} (h:s.Nn) (ws:List Int):∀n,(jq s ws n).Nn
 |0=>h
 |n+1=>(pF.yK h ws n).round _ _
theorem GV (h:List Int) (b:List UInt8):∀x∈eH h b,0≤x:=by
 intro x hx
 unfold eH at hx
 obtain⟨i,hi,rfl⟩:=List.mem_iff_getElem.1 hx
 rw[List.getElem_zipWith]
 exact zN _
theorem EJ:∀(n:Nat) (h:List Int) (b:List UInt8),(∀x∈h,0≤x)→∀x∈runM h n b,0≤x
 |0,h,b,hn=>hn
 |n+1,h,b,hn=>EJ n _ _ (GV h _)
theorem QU:∀x∈oJ,0≤x:=by decide
theorem rt {s:Nat} (n:Nat) (hs:s=32-n) (x:Int) (w:World) (hx:0≤x) (h0:0<n) (h1:n<32):Calls Tryz.prog 106 #[.int .u32 x, .int .u64 (n:Int)] w fun e w'=>e= .returned (.int .u32 (iF x s))∧w=w':=by
 subst hs
 exact GN x n w hx h0 h1
theorem QV {h:List Int} (hl:h.length=8) {w:World} {b:Nat} {t:TypeId} (hb:w.heap[b]? =some (.cells (h.map cO).toArray t (0,0))) {k:Nat} (hk:k<8):w.cell? ⟨b,k,none⟩=some (cO (h.getD k 0)):=by
 rw[←sN hl hk]
 simp[World.cell?,hb]
theorem uW (X:List UInt8) (p j i:Nat) (h:4*j+i<64):(((X.drop p).take 64).drop (j*4)).getD i 0=X.getD (p+4*j+i) 0:=by
 rw[List.getD_eq_getElem?_getD,List.getD_eq_getElem?_getD,List.getElem?_drop,List.getElem?_take,if_pos (by omega),List.getElem?_drop]
 congr 2
 omega
theorem Nw (X:List UInt8) (p j:Nat) (h:j<16):oK ((X.drop p).take 64) j=tX (X.getD (p+4*j) 0) (X.getD (p+4*j+1) 0) (X.getD (p+4*j+2) 0) (X.getD (p+4*j+3) 0):=by
 unfold oK
 rw[uW X p j 0 (by omega),uW X p j 1 (by omega),uW X p j 2 (by omega),uW X p j 3 (by omega)]
 rfl
theorem rQ {S:Nat→Prop} {w:World} {b off n:Nat} {X:List UInt8} (h:ak S w (some ⟨b,off,none⟩) n (X.map bv)) {q:Nat} (hq:q<n):w.cell? ⟨b,off+q,none⟩=some (.int .u8 ((X.getD q 0).toNat:Int)):=by
 obtain⟨b',off',e,-,-,hc⟩:=h.at_ (by omega)
 simp only[Option.some.injEq,Addr.mk.injEq,and_true]at e
 obtain⟨rfl,rfl⟩:=e
 have hl:X.length=n:=by simpa using h.length
 rw[hc q hq,List.getElem?_map,List.getElem?_eq_getElem (by omega),List.getD_eq_getElem?_getD,List.getElem?_eq_getElem (by omega)]
 rfl
theorem Lf (a b c d:UInt8):qh (qh (qh ((a.toNat:Int)%4294967296*16777216%4294967296) ((b.toNat:Int)%4294967296*65536%4294967296)) ((c.toNat:Int)%4294967296*256%4294967296)) ((d.toNat:Int)%4294967296)=tX a b c d:=by
 have ha:=a.toNat_lt
 have hb:=b.toNat_lt
 have hc:=c.toNat_lt
 have hd:=d.toNat_lt
 rw[show(d.toNat:Int)%4294967296=(d.toNat:Int)by omega,show(c.toNat:Int)%4294967296*256%4294967296=(c.toNat:Int)*256 by omega,show(b.toNat:Int)%4294967296*65536%4294967296=(b.toNat:Int)*65536 by omega,show(a.toNat:Int)%4294967296*16777216%4294967296=(a.toNat:Int)*16777216 by omega]
 exact Nu a b c d
theorem Ny (H:List Int):((H.map cO).toArray).all (·.oneCell')=true:=by
 simp[Value.oneCell']
theorem Uw (x y:Int):(x%4294967296+y%4294967296)%4294967296=(x+y)%4294967296:=by omega
theorem QW (x y:Int):(x+y%4294967296)%4294967296=(x+y)%4294967296:=by omega
theorem Dx (a c d e f g h j k w:Int):(qw ⟨a,c,d,e,f,g,h,j⟩ k w).list=[(j+bits .xor .u32 (bits .xor .u32 (iF f 26) (iF f 21)) (iF f 7)+bits .xor .u32 (bits .and .u32 f g) (bits .and .u32 (bits .xor .u32 IntKind.u32.max f) h)+k+w+(bits .xor .u32 (bits .xor .u32 (iF a 30) (iF a 19)) (iF a 10)+bits .xor .u32 (bits .xor .u32 (bits .and .u32 a c) (bits .and .u32 a d)) (bits .and .u32 c d)))%4294967296,a,c,d,(e+(j+bits .xor .u32 (bits .xor .u32 (iF f 26) (iF f 21)) (iF f 7)+bits .xor .u32 (bits .and .u32 f g) (bits .and .u32 (bits .xor .u32 IntKind.u32.max f) h)+k+w))%4294967296,f,g,h]:=by
 rw[←Uw,←QW e]
 rfl
def zP (w:World) (g:Nat) (cs:Array Value) (t:TypeId) (w':World):Prop:=w'.heap[g]? =some (.cells cs t (0,0))∧Keeps (fun b=>b=g) w w'∧w'.heap.size=w.heap.size
theorem Dy (w:World) (g:Nat) (old cs:Array Value) (t:TypeId) (hg:w.heap[g]? =some (.cells old t (0,0))):zP w g cs t (w.setRow g cs):=by
 have hz:(w.setRow g cs).heap.size=w.heap.size:=by simp[World.setRow]
 exact⟨setRow_heap w g old cs t _ hg,⟨rfl,rfl,rfl,by omega,fun b _ hb=>setRow_other w g b cs hb⟩,hz⟩
theorem tF {P:Program} {ops:Array Oper} {rest:List Oper} {o:Oper} {a:Act} {w:World} {Q:Exit→Act→World→Prop} (hgd:o.guard=none) (ty:TypeId) (x y:Operand) (ho:o.op= .store ty x y)
  (g:Nat) (cells:Array Value) (hx:a.eval x= .pointer (some ⟨g,0,none⟩)) (hy:a.eval y= .agg cells)
  (old:Array Value) (hg:w.heap[g]? =some (.cells old ty (0,0))) (hi:(P.info? ty).map (·.size)=some cells.size)
  (hold:old.size=cells.size) (h1:cells.all (·.oneCell')=true)
  (h:∀w',zP w g cells ty w'→wpList P ops Q rest (a.put o.dst undef) w'):wpList P ops Q (o::rest) a w:=
 wpList_store_row hgd ty x y ho g cells hx hy ty old hg hi hold h1 (h _ (Dy w g old cells ty hg))
theorem zP.below {w0 w w':World} {g:Nat} {cs:Array Value} {t:TypeId} (h:zP w g cs t w') (hb:Below w0.heap.size w0 w) (hg:w0.heap.size≤g):Below w0.heap.size w0 w':=by
 obtain⟨_,h2,h3⟩:=h
 exact⟨h2.os.trans hb.os,h2.tape.trans hb.tape,h2.output.trans hb.output,Nat.le_trans hb.size h2.size,fun b hb'=>(h2.block b (Nat.lt_of_lt_of_le hb' hb.size) (fun e:b=g=>by omega)).trans (hb.block b hb')⟩
end Go.Proofs.YtohpcppeajijnaaGreat
