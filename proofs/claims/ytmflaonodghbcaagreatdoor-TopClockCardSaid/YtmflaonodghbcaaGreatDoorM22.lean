/- package -/
import Derived.Test.YtmflaonodghbcaaGreatDoorM21
import Derived.Deep.DeepCutAuto
import Derived.Test.YtmflaonodghbcaaGreatDoorM13
import Derived.Test.YtmflaonodghbcaaGreatDoorM19
import Derived.Test.YtmflaonodghbcaaGreatDoorM18
set_option maxRecDepth 100000
set_option maxHeartbeats 64000000
set_option linter.all false
namespace Go.Proofs.YtmflaonodghbcaaGreatDoor
open Go.ChangeShapes Go.WideShapes Go.ChangeAt Go.RowKit
def Wrote2(B x:Nat)(w:World)(h:List Int)(N:Nat)(lb:List UInt8)(e:Ending)(w':World):Prop:=
 e= .returned (.tuple #[])∧∃v,w'.heap[x]? =some (.cells (bP (runM h (lb.length/64) lb) v N) 347 (0,0))∧w'.ownsRow B 5 1 v (lb.length%64) ((lb.drop (64*(lb.length/64))).map bv)∧Below B w w'
def WMid(S:Nat→Prop)(B x:Nat)(w:World)(h:List Int)(N:Nat)(lb:List UInt8)(v1:Value)(wx:World):Prop:=
 ∃hq av cv bq aq cq,v1= .slice aq (bq:List UInt8).length cq∧bq.length≤cq∧bq.length≤lb.length∧ah S wx aq bq.length (bq.map bv)∧wx.heap[x]? =some (.cells (bP hq (.slice av 0 cv) N) 347 (0,0))∧hq.length=8∧wx.ownsRow B 5 1 (.slice av 0 cv) 0 []∧Below B w wx∧
  runM h (lb.length/64) lb=runM hq (bq.length/64) bq∧lb.drop (64*(lb.length/64))=bq.drop (64*(bq.length/64))∧lb.length%64=bq.length%64
theorem own_ne{w:World}{B x:Nat}{a:Option Addr}{n c:Nat}{l:List Value}{cs:Array Value}(h:w.ownsRow B 5 1 (.slice a n c) n l)(hx:w.heap[x]? =some (.cells cs 347 (0,0))):(Value.slice a n c).ownBlock≠some x:=by
 intro hk;rcases h.2 with⟨e,_⟩|⟨g,cap,cur,e,_,hg,_⟩
 ·rw[e]at hk;simp[Value.ownBlock]at hk
 ·rw[e]at hk;simp only[Value.ownBlock,aag]at hk;subst hk;rw[hx]at hg;have:=aaG (fun o=>match o with|some (Obj.cells _ t _)=>t|_=>0) hg;simp at this
theorem VZ{w:World}{B:Nat}{e:TypeId}{a:Option Addr}{n c:Nat}{xs:List Value}(h:w.ownsRow B e 1 (.slice a n c) n xs):w.ownsRow B e 1 (.slice a 0 c) 0 []:=by
 rcases h.2 with⟨e1,e2⟩|⟨g,cap,cur,e1,e2,e3,e4,e5,e6,e7⟩
 ·cases e1;exact⟨rfl,.inl ⟨rfl,rfl⟩⟩
 ·cases e1;exact⟨rfl,.inr ⟨g,_,cur,rfl,e2,e3,Nat.zero_le _,e5,e6,by simp⟩⟩
theorem N8{S:Nat→Prop}(B x:Nat)(h:List Int)(l bs:List UInt8)(N:Nat)(av:Option Addr)(cv:Nat)(a:Option Addr)(n c:Nat)(w:World)(h8:h.length=8)(hx:w.heap[x]? =some (.cells (bP h (.slice av l.length cv) N) 347 (0,0)))(hxB:B≤x)(hv:w.ownsRow B 5 1 (.slice av l.length cv) l.length (l.map bv))(hl:l.length<64)(hr:ah S w a n (bs.map bv))(hS:∀b,S b→b<B)(hBw:B≤w.heap.size)(hn:n≤100000000)(hN:N≤100000000)(hnc:n≤c):
  Calls Tryz.prog 220 #[ptr x,.slice a n c] w (Wrote2 B x w h (N+n) (l++bs)):=by
 obtain⟨i8,hi⟩:∃i,Tryz.prog.info? 5=some i∧i.zero=some (.int .u8 0)∧i.size=1∧i.bytes=1:=aay (by kernel_rfl);have HI:=ab9 hi;have hxw:=(uh.1 hx).1;have hvx:=own_ne hv hx;have c73:w.cell? ⟨x,73,none⟩=some (.int .i64 N):=by simp only[World.cell?,hx];exact st_n h8 _ _
 have f73:w.frozen? ⟨x,73,none⟩=false:=by simp[World.frozen?,hx]
 have hx1:(w.setCell ⟨x,73,none⟩ (.int .i64 ((N:Int)+n))).heap[x]? =some (.cells (bP h (.slice av l.length cv) ((N:Int)+n)) 347 (0,0)):=by
  rw[aK hx,K3 h8]
 have VH:(w.setCell ⟨x,73,none⟩ (.int .i64 ((N:Int)+n))).cell? ⟨x,72,none⟩=some (.slice av l.length cv):=by simp only[World.cell?,hx1];exact tJ h8 _ _
 have hK1:Keeps (fun b=>b=x) w (w.setCell ⟨x,73,none⟩ (.int .i64 ((N:Int)+n))):=Keeps.kX w ⟨x,73,none⟩ _;have HR1:acd (ah S (w.setCell ⟨x,73,none⟩ (.int .i64 ((N:Int)+n))) a n (bs.map bv)):=hr.move (by rw[size_set];exact Nat.le_refl _) fun b hb hbw=>⟨hb,aL _ _ _ _ (by have:=hS b hb;show b≠x;omega)⟩;have HV1:acd ((w.setCell ⟨x,73,none⟩ (.int .i64 ((N:Int)+n))).ownsRow B 5 1 (.slice av l.length cv) l.length (l.map bv)):=bR hv fun b hb hbw=>aL _ _ _ _ fun(e:b=x)=>hvx (e▸hb);have BS:=ab9 hx1;have HB1:=ab9 (hK1.bQ hBw fun y hy (e:y=x)=>by omega);have HS:=ab9 hS;have hbl:bs.length=n:=by simpa using hr.length
 have xC:=ab9 hbl;have H8:=ab9 h8;have e0:(N:Int)+n≤200000000:=by omega
 have e1:0≤(N:Int)+n:=by omega
 clear hi hx hx1 hr hS hK1 hbl h8 hv hvx;obtain⟨N2,hN2⟩:∃N2:Nat,N2=N+n:=⟨_,rfl⟩;have Ji:acd (((N2:Nat):Int)=(N:Int)+n):=ab9 (by omega);rw[←hN2];obtain⟨lb,hlb⟩:∃lb,lb=l++bs:=⟨_,rfl⟩;rw[←hlb];have HLB:=ab9 hlb;have hlbn:lb.length≤200000000:=by rw[hlb,List.length_append,xC.o];omega
 clear hN2 hlb;go_enter Tryz.func220,Tryz.ntmps220;go_upto_if 19 with(fail);have hz1:(w.setCell ⟨x,73,none⟩ (.int .i64 ((N:Int)+n))).heap.size=w.heap.size:=size_set _ _ _;generalize w.setCell ⟨x,73,none⟩ (.int .i64 ((N:Int)+n))=w1 at*;have HZ1:=ab9 hz1;have hN3:=Ji.o;rw[←hN3]at BS;clear hz1 hN3
 go_cut [1]from 4 to 67 (fun v wx=>WMid S B x w h N2 lb v wx)
 case first=>
  by_cases hl0:l.length=0
  ·obtain rfl:l=[]:=Pe hl0;clear VH c73 f73;go_wp2_with fail
   go_meet
   have hlb:lb=bs:=by rw[HLB.o];rfl
   subst hlb;exact⟨h,av,cv,lb,a,c,by rw[xC.o],by rw[xC.o];exact hnc,Nat.le_refl _,by rw[xC.o];exact HR1.o,BS.o,H8.o,HV1.o,HB1.o,rfl,rfl,rfl⟩
  ·obtain⟨r,hr⟩:∃r,r=l.length:=⟨_,rfl⟩;rw[←hr]at HV1 BS VH hl hl0⊢;have HR:=ab9 hr;have d0:decide (0<r)=true:=aal (by omega);have d1:decide ((0:Int)<(r:Int))=true:=aal (by omega);have r0:0<r:=by omega
   clear hr hl0;obtain⟨k,hk⟩:∃k:Nat,(k:Int)=min (n:Int) (64-(r:Int)):=⟨min n (64-r),by omega⟩;have HK:=ab9 hk;have i0:(0:Int)≤(k:Int):=by omega
   have i1:(k:Int)≤(n:Int):=by omega
   have i2:(n:Int)≤(c:Int):=by omega
   have i3:(k:Int)≤(c:Int):=by omega
   have Gj:r+k≤64:=by omega
   clear hk;go_upto_region 3 with(fail);rw[←HK.o];have f72:w1.frozen? ⟨x,72,none⟩=false:=by simp[World.frozen?,BS.o]
   have hbw1:B≤w1.heap.size:=by rw[HZ1.o];exact hBw
   have hxw1:x<w1.heap.size:=by rw[HZ1.o];exact hxw
   have HVN:=ab9 (own_ne HV1.o BS.o);have C_:acd (w1.drew.ownsRow B 5 1 (.slice av r cv) r (l.map bv)):=bR HV1.o fun b hb hbw=>rfl;have qD:acd (ah S w1.drew a k ((bs.take k).map bv)):=by
    have h9:=(HR1.o.take k).below acf.drew ace
    rwa [aa4 (by omega),←aaO]at h9
   refine Cv 11 ((fun w'=>w'.cell? ⟨x,72,none⟩=some (.slice av r cv)∧w'.frozen? ⟨x,72,none⟩=false)) ?_ fun hS=> ?_
   ·exact⟨VH,f72⟩
   refine aY 0 hS ?_;refine aY 1 hS ?_;refine aY 2 hS ?_;refine aY 3 hS ?_;refine aY 4 hS ?_;refine aY 5 hS ?_;refine aY 6 hS ?_;refine aY 7 hS ?_;refine dW 8 fun K hK=> ?_;refine gP (by rfl) (.tmp 33) (.tmp 36) 32 (by rfl) B 5 i8 _ 1 1 Tryz.underlying32 HI.o.1 HI.o.2.1 HI.o.2.2.1 HI.o.2.2.2 rfl (by omega) _ r (l.map bv) (by rfl) C_.o a k c ((bs.take k).map bv) (by rfl) (Eo qD.o) (iU _) (by unfold maxLen;omega) (by omega) hbw1 ?_;intro A9 c9 w9 rW Ep Jh;have CG:w9.heap[x]? =w1.heap[x]? :=Ep.block x hxw1 HVN.o.symm;have Je:=ab9 CG;have YD:=ab9 rW;have Sc:=ab9 Ep;have q9:w9.cell? ⟨x,72,none⟩=some (.slice av r cv):=(World.cell?_of_block (w:=w1) (w':=w9) (a:=⟨x,72,none⟩) CG).trans VH;have f9:w9.frozen? ⟨x,72,none⟩=false:=(by simp[World.frozen?,CG,BS.o]);clear rW Ep Jh CG;refine dK hK (⟨q9,f9⟩) fun hS=> ?_;clear hK K;refine aY 9 hS ?_;refine aY 10 hS ?_;refine dW 11 fun K hK=> ?_;go_simp;refine sN hK ?_;clear hS hK K;have hx10:(w9.setCell ⟨x,72,none⟩ (.slice A9 (r+k) c9)).heap[x]? =some (.cells (bP h (.slice A9 (r+k) c9) N2) 347 (0,0)):=by
    rw[aK (Je.o.trans BS.o),zL H8.o]
   have ho10:(w9.setCell ⟨x,72,none⟩ (.slice A9 (r+k) c9)).ownsRow B 5 1 (.slice A9 (r+k) c9) (r+k) ((l++bs.take k).map bv):=by
    rw[aaz];exact bR YD.o fun b hb hbw=>aL _ _ _ _ fun(e:b=x)=>own_ne YD.o (Je.o.trans BS.o) (e▸hb)
   have wR:Below B w (w9.setCell ⟨x,72,none⟩ (.slice A9 (r+k) c9)):=by
    have h1:Below B w1 w9:=acf.drew.trans ((Keeps.grown Sc.o).bQ hbw1 fun y hy hk=>by have:=bC C_.o y hk;omega);exact(HB1.o.trans h1).trans ((Keeps.kX w9 ⟨x,72,none⟩ _).bQ (Nat.le_trans hbw1 h1.size) fun y hy (e:y=x)=>by omega)
   have hr10:ah S (w9.setCell ⟨x,72,none⟩ (.slice A9 (r+k) c9)) a n (bs.map bv):=by
    refine(HR1.o.kept (w':=w9) Sc.o.size fun b hb hbw=>Sc.o.block b hbw fun e=> ?_).kept (by rw[size_set];exact Nat.le_refl _) fun b hb hbw=>aL _ _ _ _ ?_
    ·have:=bC C_.o b e.symm;have:=HS.o b hb;omega
    ·have:=HS.o b hb;show b≠x;omega
   generalize (w9.setCell ⟨x,72,none⟩ (.slice A9 (r+k) c9))=Hf at*;have Si:=ab9 hx10;have Sj:=ab9 ho10;have Es:=ab9 wR;have HR10:=ab9 hr10;have q10:Hf.cell? ⟨x,72,none⟩=some (.slice A9 (r+k) c9):=by simp only[World.cell?,hx10];exact tJ H8.o _ _
   clear hx10 ho10 wR hr10 q9 f9 VH f72 c73 f73 YD Sc Je qD C_;by_cases hA:r+n<64
   ·obtain rfl:k=n:=by have:=HK.o;omega
    have d2:decide (((r+k:Nat):Int)<64)=true:=aal (by omega);have d3:decide ((r:Int)+(k:Int)<64)=true:=aal (by omega);have d4:r+k<64:=hA;have hll:lb.length/64=0∧lb.length%64=r+k∧l++bs.take k=lb:=by
     have h9:lb.length=r+k:=by rw[HLB.o,List.length_append,←HR.o,xC.o]
     exact⟨by omega,by omega,by rw[HLB.o,List.take_of_length_le (by rw[xC.o];exact Nat.le_refl _)]⟩
    have J7:=ab9 hll;clear hll;go_wp2_with fail
    all_goals
     go_end0
     obtain⟨l1,l2,l3⟩:=J7.o;refine⟨rfl,.slice A9 (r+k) c9,?_,?_,Es.o⟩
     ·rw[l1];exact Si.o
     ·rw[l2,l1];have h9:=Sj.o;rw[l3]at h9;exact h9
   ·have Jg:r+k=64:=by have:=HK.o;omega
    rw[Jg]at Si Sj q10⊢;have hxw10:x<Hf.heap.size:=(uh.1 Si.o).1;have hxd:Hf.drew.heap[x]? =some (.cells (h.map gq++(kM.map gq++[Value.slice A9 64 c9,Value.int .i64 N2])).toArray 347 (0,0)):=by
     have h9:=Si.o;unfold bP at h9;exact h9
    have hkc:∀i,i<64→Hf.drew.cell? ⟨x,8+i,none⟩=some (gq (kM.getD i 0)):=fun i hi=>by
     have h9:=ZC H8.o (.slice A9 64 c9) N2 i hi;show Hf.cell? ⟨x,8+i,none⟩=_;simp only[World.cell?,Si.o];exact h9
    obtain⟨d,hd⟩:∃d,d=l++bs.take k:=⟨_,rfl⟩;rw[←hd]at Sj;have HD:=ab9 hd;have hdl:d.length=64:=by rw[hd,List.length_append,←HR.o,List.length_take,xC.o];omega
    have hrow:=(ah.mU Sj.o).2;have xw:64≤c9:=by
     obtain⟨a1,c1,e1,e2⟩:=bG Sj.o;cases e1;exact e2
    have HT:=ab9 (zK x x 8 347 h (kM.map gq++[Value.slice A9 64 c9,Value.int .i64 N2]) A9 64 c9 d Hf.drew H8.o hxd hkc hxw10 (hrow.below acf.drew ace) ace xw);have NI:=ab9 hdl;have HK64:=ab9 Jg;clear hxd hkc hd hdl hrow Jg;go_upto_region 6 with(fail);obtain⟨ak,hak⟩:∃ak,ak=(if c=k then a else Option.map (fun x=>x.add k) a):=⟨_,rfl⟩;rw[←hak];have NY:acd (ah S Hf ak (n-k) ((bs.drop k).map bv)):=by
     show ah S Hf ak (n-k) ((bs.drop k).map bv);by_cases hnk:n≤k
     ·exact ah.zero _ _ _ (by omega) (by rw[aaC (by rw[xC.o];exact hnk)];rfl)
     ·have h9:=HR10.o;obtain⟨b,off,rfl,-,-,-⟩:=h9.at_ (by omega);rw[hak,if_neg (by omega),aaR,aam,add_plain];exact h9.drop k
    have HNC:acd (n-k≤c-k):=ab9 (by omega);clear hak HR10;refine Cv 10 ((fun w'=>w'.cell? ⟨x,72,none⟩=some (.slice A9 64 c9))) ?_ fun hS=> ?_
    ·exact q10
    refine aY 0 hS ?_;refine aY 1 hS ?_;refine aY 2 hS ?_;refine aY 3 hS ?_;refine aY 4 hS ?_;refine aY 5 hS ?_;refine aY 6 hS ?_;refine aY 7 hS ?_;refine aY 8 hS ?_;refine aY 9 hS ?_;refine dW 10 fun K hK=> ?_;go_simp;refine HT.o.mono ?_;rintro e V4 ⟨rfl,hx11,hK11⟩;have HX11:acd (V4.heap[x]? =some (.cells (bP (jP h d) (.slice A9 64 c9) N2) 347 (0,0))):=hx11;have HK11:=ab9 hK11;clear hx11 hK11 q10;go_wp2_with fail;refine sN hK ?_;clear hS hK K;have h8b:(jP h d).length=8:=qd h d H8.o;have q11:V4.cell? ⟨x,72,none⟩=some (.slice A9 64 c9):=by simp only[World.cell?,HX11.o];exact tJ h8b _ _
    have f11:V4.frozen? ⟨x,72,none⟩=false:=by simp[World.frozen?,HX11.o]
    have H8B:=ab9 h8b;clear h8b;go_wp2_with fail
    go_meet
    have hlb:lb=d++bs.drop k:=by rw[HLB.o,HD.o,List.append_assoc,aaQ]
    have hll:lb.length=64+(bs.drop k).length:=by rw[hlb,List.length_append,NI.o]
    have hbx:∀b,S b→b≠x:=fun b hb=>by have:=HS.o b hb;omega
    have ZI:=HK11.o;refine⟨jP h d,A9,c9,bs.drop k,ak,c-k,by rw[List.length_drop,xC.o],by rw[List.length_drop,xC.o];exact HNC.o,by omega,?_,?_,H8B.o,?_,?_,?_,?_,by omega⟩
    ·rw[List.length_drop,xC.o];exact(NY.o.kept (w':=V4) ZI.size fun b hb hbw=>ZI.block b hbw (hbx b hb)).kept (by rw[size_set];exact Nat.le_refl _) fun b hb hbw=>aL _ _ _ _ (hbx b hb)
    ·rw[aK HX11.o,zL H8B.o]
    ·have ho:=Sj.o;have hne:=own_ne ho Si.o;have ho11:V4.ownsRow B 5 1 (.slice A9 64 c9) 64 (d.map bv):=bR ho fun b hb hbw=>ZI.block b hbw fun(e:b=x)=>hne (e▸hb);exact VZ (bR ho11 fun b hb hbw=>aL _ _ _ _ fun(e:b=x)=>hne (e▸hb))
    ·have uK:B≤Hf.heap.size:=Nat.le_trans hBw Es.o.size;have h1:Below B Hf V4:=acf.drew.trans (ZI.bQ uK fun y hy (e:y=x)=>by omega);exact(Es.o.trans h1).trans ((Keeps.kX V4 ⟨x,72,none⟩ _).bQ (Nat.le_trans uK h1.size) fun y hy (e:y=x)=>by omega)
    ·rw[show lb.length/64=(bs.drop k).length/64+1 by omega,runM,hlb,abp NI.o,aa6 NI.o]
    ·rw[show 64*(lb.length/64)=64+64*((bs.drop k).length/64)by omega,←aaS,hlb,aa6 NI.o]
 case rest=>
  obtain⟨hq,aw,cw,bq,aq,cq,rfl,hcq,hbq,hrq,hxq,h8q,hoq,hbb,hrun,hdrop,hmod⟩:=hcut;have HRUN:=ab9 hrun;have HDROP:=ab9 hdrop;have HMOD:=ab9 hmod;have HOQ:=ab9 hoq;obtain⟨m0,hm0⟩:∃m0,m0=bq.length:=⟨_,rfl⟩;rw[←hm0]at hrq hcq hbq⊢;have HM0:=ab9 hm0;have zN:=ab9 hbb;have HXQ:=ab9 hxq;have HRQ:=ab9 hrq;have H8Q:=ab9 h8q;have hm9:m0≤200000000:=by omega
  have hown0:=own_ne hoq hxq;have HWN:=ab9 hown0;clear hrun hdrop hmod hoq hm0 hbb hxq hrq h8q hown0 VH c73 f73;have hSx:∀b,S b→b≠x:=fun b hb=>by have:=HS.o b hb;omega
  have HSX:=ab9 hSx;clear hSx;go_wp2_with fail
  go_loopw [1] (fun v wx=>∃(k:Nat) (a':Option Addr) (c':Nat),v= .slice a' (m0-64*k) c'∧64*k≤m0∧m0-64*k≤c'∧ah S wx a' (m0-64*k) ((bq.drop (64*k)).map bv)∧wx.heap[x]? =some (.cells (bP (runM hq k bq) (.slice aw 0 cw) N2) 347 (0,0))∧Keeps (fun b=>b=x) wc wx) (fun v _=>match v with| .slice _ m _=>m|_=>0)
  case atStart=>exact⟨0,aq,cq,rfl,by omega,by omega,HRQ.o,HXQ.o,Keeps.refl _ _⟩
  case round=>
   obtain⟨k,a',c',rfl,hk,hc',Gj,hxk,K4⟩:=hrel;have h8:(runM hq k bq).length=8:=jQ k _ _ H8Q.o;obtain⟨m,hm⟩:∃m,m=m0-64*k:=⟨_,rfl⟩;rw[←hm]at Gj hc'⊢;have VI:x<wr.heap.size:=(uh.1 hxk).1;have ML:=ab9 hxk;have HKK:=ab9 K4;have NY:=ab9 Gj;have HM:=ab9 hm;have VJ:=ab9 hk;have hmn:m≤m0:=by omega
   by_cases h64:64≤m
   ·have hd:decide ((64:Int)≤(m:Int))=true:=by simp;omega
    have hxd:wr.drew.heap[x]? =some (.cells ((runM hq k bq).map gq++(kM.map gq++[Value.slice aw 0 cw,Value.int .i64 N2])).toArray 347 (0,0)):=by
     have h9:=hxk;unfold bP at h9;exact h9
    have hkc:∀i,i<64→wr.drew.cell? ⟨x,8+i,none⟩=some (gq (kM.getD i 0)):=fun i hi=>by
     have h9:=ZC h8 (.slice aw 0 cw) N2 i hi;show wr.cell? ⟨x,8+i,none⟩=_;simp only[World.cell?,hxk];exact h9
    have K5:ah S wr.drew a' 64 (((bq.drop (64*k)).take 64).map bv):=by
     have:=(Gj.take 64).below acf.drew ace
     rwa [aa4 h64,←aaO]at this
    have HT:=ab9 (zK x x 8 347 (runM hq k bq) (kM.map gq++[Value.slice aw 0 cw,Value.int .i64 N2]) a' 64 c' ((bq.drop (64*k)).take 64) wr.drew h8 hxd hkc VI K5 ace (by omega));have g1:(64:Int)≤(c':Int):=by omega
    have g2:(64:Int)≤(m:Int):=by omega
    have g3:(m:Int)≤(c':Int):=by omega
    clear hxk K4 Gj hm hxd hkc K5 h8;go_wp2_with fail;refine Cv 8 ((fun _=>True)) ?_ fun hS=> ?_
    ·trivial
    refine aY 0 hS ?_;refine aY 1 hS ?_;refine aY 2 hS ?_;refine aY 3 hS ?_;refine aY 4 hS ?_;refine aY 5 hS ?_;refine aY 6 hS ?_;refine aY 7 hS ?_;refine dW 8 fun K hK=> ?_;go_simp;refine HT.o.mono ?_;rintro e w2 ⟨rfl,hx2,hK2⟩;have VK:=ab9 hx2;have AA:=ab9 hK2;clear hx2 hK2;go_wp2_with fail;refine sN hK ?_;clear hS hK K;go_wp2_with fail;go_roundw
    case rel=>
     have e1:m0-64*(k+1)=m-64:=by have:=HM.o;omega
     have hK9:Keeps (fun b=>b=x) wc w2:=(HKK.o.trans (show Keeps (fun b=>b=x) wr wr.drew from⟨rfl,rfl,rfl,Nat.le_refl _,fun _ _ _=>rfl⟩) fun x _ hx=>hx).trans AA.o fun x _ hx=>hx;have hr2:ah S w2 a' m ((bq.drop (64*k)).map bv):=NY.o.move AA.o.size fun b hb hbw=>⟨hb,AA.o.block b hbw (HSX.o b hb)⟩;have e2:(bq.drop (64*(k+1))).map bv=((bq.drop (64*k)).map bv).drop 64:=by
      rw[←aaR,aaS];congr 2
     refine⟨k+1,_,c'-64,by rw[e1],by have:=HM.o;omega,by rw[e1];omega,?_,?_,hK9⟩
     ·rw[e1,e2];obtain⟨b,off,rfl,-,-,-⟩:=NY.o.at_ (by omega);by_cases hc:c'=64
      ·rw[if_pos hc];refine ah.zero _ _ _ (by omega) (aaC ?_);rw[List.length_map,List.length_drop,←HM0.o];have:=HM.o;omega
      ·rw[if_neg hc];exact hr2.drop 64
     ·rw[wz];exact VK.o
    case measure=>show m-64<m;omega
   ·have hd:decide ((64:Int)≤(m:Int))=false:=by simp;omega
    have hkn:m0/64=k:=by have:=HM.o;have:=VJ.o;omega
    have Sb:m0%64=m:=by have:=HM.o;have:=VJ.o;omega
    have VH:wr.cell? ⟨x,72,none⟩=some (.slice aw 0 cw):=by simp only[World.cell?,hxk];exact tJ h8 _ _
    have f72:wr.frozen? ⟨x,72,none⟩=false:=by simp[World.frozen?,hxk]
    have ZE:=ab9 hkn;have HM64:=ab9 Sb;have hbw:B≤wr.heap.size:=Nat.le_trans hBw (Nat.le_trans zN.o.size K4.size);have hml:0+m≤maxLen:=by unfold maxLen;omega
    have hmb:(0+m)*1≤140737488355328:=by omega
    have HML:=ab9 hml;have ZF:=ab9 hmb;have HOR:acd (wr.ownsRow B 5 1 (.slice aw 0 cw) 0 []):=bR HOQ.o fun b hb hbw=>K4.block b hbw fun(e:b=x)=>HWN.o (e▸hb);clear hml hmb;clear hxk K4 Gj hm hkn Sb h8;go_wp2_with (at_builtin;refine ji rfl _ _ 32 rfl B 5 i8 _ 1 1 Tryz.underlying32 HI.o.1 HI.o.2.1 HI.o.2.2.1 HI.o.2.2.2 rfl (by omega) (.slice aw 0 cw) 0 [] rfl HOR.o a' m c' ((bq.drop (64*k)).map bv) rfl (Eo NY.o) (iU _) HML.o ZF.o hbw ?_;intro A9 c9 w9 rW Ep Jh;rw[Nat.zero_add,List.nil_append]at rW;have CG:w9.heap[x]? =wr.heap[x]? :=Ep.block x VI HWN.o.symm;have YD:=ab9 rW;have Je:=ab9 CG;have q9:w9.cell? ⟨x,72,none⟩=some (.slice aw 0 cw):=(World.cell?_of_block (w:=wr) (w':=w9) (a:=⟨x,72,none⟩) CG).trans VH;have f9:w9.frozen? ⟨x,72,none⟩=false:=(by simp[World.frozen?,CG,ML.o]);have Sc:=ab9 Ep;clear rW CG Ep Jh;rw[Nat.zero_add])
    go_end0
    have hxs:w9.heap[x]? =some (.cells (bP (runM hq k bq) (.slice aw 0 cw) N2) 347 (0,0)):=Je.o.trans ML.o;have hne9:=own_ne YD.o hxs;refine⟨rfl,.slice A9 m c9,?_,?_,?_⟩
    ·rw[aK hxs,HRUN.o,←HM0.o,ZE.o];rw[zL (jQ k _ _ H8Q.o)]
    ·rw[HMOD.o,HDROP.o,←HM0.o,HM64.o,ZE.o];exact bR YD.o fun b hb hbw=>aL _ _ _ _ fun(e:b=x)=>hne9 (e▸hb)
    ·have hb1:Below B w wr:=zN.o.trans (HKK.o.bQ (Nat.le_trans hBw zN.o.size) fun y hy (e:y=x)=>by omega);have hb2:Below B wr w9:=(Keeps.grown Sc.o).bQ hbw fun y hy hk=>by have:=bC HOR.o y hk;omega
     exact(hb1.trans hb2).trans ((Keeps.kX w9 ⟨x,72,none⟩ _).bQ (Nat.le_trans hbw Sc.o.size) fun y hy (e:y=x)=>by omega)
theorem Et:∀(q:Nat) (h:List Int) (F t:List UInt8) (r:Nat),F.length=64*q→runM h (q+r) (F++t)=runM (runM h q F) r t
 |0,h,F,t,r,hF=>by
  obtain rfl:F=[]:=Pe (by omega);rw[Nat.zero_add];rfl
 |q+1,h,F,t,r,hF=>by
  rw[show q+1+r=q+r+1 by omega,runM,runM,List.take_append_of_le_length (by omega),List.drop_append_of_le_length (by omega)];exact Et q _ (F.drop 64) t r (by rw[List.length_drop];omega)
theorem V6(h:List Int)(Q bs l:List UInt8)(hl:l=Q.drop (64*(Q.length/64))):runM (runM h (Q.length/64) Q) ((l++bs).length/64) (l++bs)=runM h ((Q++bs).length/64) (Q++bs)∧(l++bs).drop (64*((l++bs).length/64))=(Q++bs).drop (64*((Q++bs).length/64))∧(l++bs).length%64=(Q++bs).length%64:=by
 obtain⟨q,hq⟩:∃q,q=Q.length/64:=⟨_,rfl⟩;obtain⟨F,hF⟩:∃F,F=Q.take (64*q):=⟨_,rfl⟩;have hQ:Q=F++l:=by rw[hF,hl,←hq,aaQ]
 have hFl:F.length=64*q:=by rw[hF,List.length_take];omega
 have hlen:(Q++bs).length=64*q+(l++bs).length:=by rw[hQ,List.append_assoc,List.length_append,hFl]
 have hdiv:(Q++bs).length/64=q+(l++bs).length/64:=by omega
 have h0:runM h q Q=runM h q F:=by
  have:=Et q h F l 0 hFl;rw[←hQ,ab6]at this;exact this
 refine⟨?_,?_,by omega⟩
 ·rw[hdiv,←hq,h0,hQ,List.append_assoc,Et q h F (l++bs) _ hFl]
 ·rw[hdiv,Nat.mul_add,←aaS,hQ,List.append_assoc,aa6 hFl]
abbrev uL:=Option Addr×Nat×Nat×List UInt8
def ng(L:List uL):List UInt8:=L.flatMap (·.2.2.2)
theorem Sk{L:List uL}{i:Nat}{p:uL}(h:L[i]? =some p):ng (L.take (i+1))=ng (L.take i)++p.2.2.2:=by
 rw[List.take_add_one,h];simp[ng]
theorem V7(L:List uL)(h:∀p∈L,p.2.2.2.length≤10000000):(ng L).length≤10000000*L.length:=by
 induction L with
 |nil=>simp[ng]
 |cons p t ih=>
  have h1:=ih fun q hq=>h q (abN _ hq);have h2:=h p (List.mem_cons_self ..);have h3:ng (p::t)=p.2.2.2++ng t:=by simp[ng]
  rw[h3,List.length_append,List.length_cons];omega
theorem V8{S:Nat→Prop}(nb:Nat)(L:List uL)(m:Nat)(hm:m=L.length)(w:World)(hc:∀i p,L[i]? =some p→w.cell? ⟨nb,i,none⟩=some (.slice p.1 p.2.1 p.2.2.1))(hnb:nb<w.heap.size)(hr:∀p∈L,ah S w p.1 p.2.1 (p.2.2.2.map bv)∧p.2.1≤10000000∧p.2.1≤p.2.2.1)(hL:m≤3):
  Calls Tryz.prog 175 #[.slice (some ⟨nb,0,none⟩) m m] w (fJ w (kg (ng L))):=by
 have HR:acd (∀p∈L,ah (fun b=>b<w.heap.size) w p.1 p.2.1 (p.2.2.2.map bv)∧p.2.1≤10000000∧p.2.1≤p.2.2.1∧p.2.2.2.length=p.2.1):=ab9 fun p hp=>⟨(hr p hp).1.move ace fun b hb hbw=>⟨hbw,rfl⟩,(hr p hp).2.1,(hr p hp).2.2,by simpa using(hr p hp).1.length⟩;have V_:acd (∀i,(ng (L.take i)).length≤30000000):=ab9 fun i=>by
  have h1:=V7 (L.take i) fun p hp=>by have h9:=HR.o p (aaK hp);omega
  have h2:(L.take i).length≤3:=by rw[List.length_take];omega
  omega
 have HC:=ab9 hc;have HM:=ab9 hm;clear hr hc hm;go_enter Tryz.func175,Tryz.ntmps175;go_wp2_with fail;refine(En _).mono ?_;rintro e w1 ⟨x,rfl,hxw,hx,hb1⟩;have HX:=ab9 hx;have HB1:=ab9 hb1;clear hx hb1;go_wp2_with fail
 go_loopw [5,9] (fun _ iv wx=>∃(i:Nat) (av:Option Addr) (cv:Nat),iv= .int .i64 (i:Int)∧i≤m∧wx.heap[x]? =some (.cells (bP (runM FK ((ng (L.take i)).length/64) (ng (L.take i))) (.slice av ((ng (L.take i)).length%64) cv) (ng (L.take i)).length) 347 (0,0))∧wx.ownsRow w.heap.size 5 1 (.slice av ((ng (L.take i)).length%64) cv) ((ng (L.take i)).length%64) (((ng (L.take i)).drop (64*((ng (L.take i)).length/64))).map bv)∧Below w.heap.size w wx) (fun _ iv _=>m-(intOf iv).toNat)
 case atStart=>
  have e0:ng (L.take 0)=[]:=by simp[ng]
  refine⟨0,none,0,rfl,Nat.zero_le _,?_⟩;rw[e0];exact⟨HX.o,⟨rfl,.inl ⟨rfl,rfl⟩⟩,HB1.o⟩
 case round=>
  obtain⟨i,av,cv,rfl,him,hx,hv,hb⟩:=hrel;obtain⟨Q,hQ⟩:∃Q,Q=ng (L.take i):=⟨_,rfl⟩;rw[←hQ]at hx hv;have hQl:Q.length≤30000000:=by rw[hQ];exact V_.o i
  have HQ:=ab9 hQ;clear hQ;by_cases hlt:i<m
  ·obtain⟨p,hp⟩:∃p,L[i]? =some p:=⟨_,List.getElem?_eq_getElem (by have:=HM.o;omega)⟩;obtain⟨a,n,c,bs⟩:=p;obtain⟨h1,h2,h3,h4⟩:=HR.o _ (aaI hp);dsimp only at h1 h2 h3 h4;have hcr:=(hb.cell (p:=⟨nb,i,none⟩) hnb).trans (HC.o i _ hp);dsimp only at hcr;obtain⟨l,hl⟩:∃l,l=Q.drop (64*(Q.length/64)):=⟨_,rfl⟩;have hll:l.length=Q.length%64:=by rw[hl,List.length_drop];omega
   rw[←hl,←hll]at hv;rw[←hll]at hx;have HWR:=ab9 (N8 w.heap.size x _ l bs Q.length av cv a n c wr (jQ _ _ _ rfl) hx hxw hv (by omega) (h1.below hb ace) (fun b hb=>hb) hb.size (by omega) (by omega) h3);have Un:=ab9 (V6 FK Q bs l hl);have HP:=ab9 (Sk hp);have HB:=ab9 hb;have HN:=ab9 h4;have FZ:=ab9 hlt;have d0:decide ((i:Int)<(m:Int))=true:=aal (by omega);have i0:(0:Int)≤(i:Int):=by omega
   have i1:(i:Int)<(m:Int):=by omega
   clear hx hv hb hl hll hp h4 h1;go_wp2_with fail;refine HWR.o.mono ?_;rintro e w2 ⟨rfl,v,hx2,hv2,hb2⟩;have VK:=ab9 hx2;have C_:=ab9 hv2;have HB2:=ab9 hb2;clear hx2 hv2 hb2 HWR;go_wp2_with fail;go_roundw
   case rel=>
    obtain⟨r1,r2,r3⟩:=Un.o;have hv2:=C_.o;have hx2:=VK.o;rw[r1]at hx2;rw[r2,r3]at hv2;obtain⟨av2,cv2,rfl,-⟩:=bG hv2;have hp9:ng (L.take (i+1))=Q++bs:=by rw[HP.o,HQ.o]
    refine⟨i+1,av2,cv2,by go_num,FZ.o,?_,?_,HB.o.trans HB2.o⟩
    ·rw[hp9];rw[show(Q++bs).length=Q.length+n by rw[List.length_append,HN.o]]at hx2⊢;exact hx2
    ·rw[hp9];exact hv2
   case measure=>have:=FZ.o;simp[intOf];omega
  ·have hQA:Q=ng L:=by rw[HQ.o,List.take_of_length_le (by have:=HM.o;omega)]
   have HS:=ab9 (K8 x (runM FK (Q.length/64) Q) (.slice av (Q.length%64) cv) Q.length (Q.length%64) (Q.drop (64*(Q.length/64))) wr (jQ _ _ _ rfl) hx (Er hv (Nat.zero_le _)) (Nat.mod_lt _ (by omega)) (by omega));have HB:=ab9 hb;have HQA:=ab9 hQA;have d0:decide ((i:Int)<(m:Int))=false:=aaf (by omega);have d1:decide (i<m)=false:=aaf hlt;clear hx hv hb hQA;go_wp2_with fail;refine HS.o.mono ?_;rintro e w2 ⟨a2,n2,c2,rfl,hn2,hr2,hb2⟩;have HR2:=ab9 hr2;have HB2:=ab9 hb2;clear hr2 hb2;go_wp2_with fail;go_ret;have hs:=HB.o.size;refine⟨a2,n2,c2,rfl,hn2,?_,HB.o.trans (HB2.o.mono hs)⟩;have h9:=HR2.o.mono (S':=fun b=>w.heap.size≤b∧b<w2.heap.size) fun b hb=>⟨by omega,hb.2⟩;rw[←HQA.o];unfold kg;rw[Nat.mul_comm (Q.length/64) 64];exact h9
theorem Eu(w:World)(y:UInt8):ah (fun b=>b=w.heap.size) (w.alloc (.cells #[.int .u8 (y.toNat:Int)] 5)) (some ⟨w.heap.size,0,none⟩) 1 ([y].map bv):=kQ (w:=w) ([y].map bv) 5 (show 1≤maxLen by decide)
theorem Wd{S:Nat→Prop}(a:Option Addr)(n c:Nat)(bs:List UInt8)(w:World)(hr:ah S w a n (bs.map bv))(hn:n≤10000000)(hnc:n≤c):
  Calls Tryz.prog 200 #[.slice a n c] w (fJ w (kg ([0]++bs))):=by
 have hb1:=wall w (.cells #[.int .u8 0] 5);have hb2:=wall (w.alloc (.cells #[.int .u8 0] 5)) (.cells #[.slice (some ⟨w.heap.size,0,none⟩) 1 1,.slice a n c] 32);have hz1:(w.alloc (.cells #[.int .u8 0] 5)).heap.size=w.heap.size+1:=by simp
 have hh:=(MapKept.heap_alloc (w.alloc (.cells #[.int .u8 0] 5)) (.cells #[.slice (some ⟨w.heap.size,0,none⟩) 1 1,.slice a n c] 32)).1;rw[hz1]at hh;obtain⟨w2,hw2⟩:∃w2,w2=(w.alloc (.cells #[.int .u8 0] 5)).alloc (.cells #[.slice (some ⟨w.heap.size,0,none⟩) 1 1,.slice a n c] 32):=⟨_,rfl⟩;rw[←hw2]at hh hb2;have rX:=hb1.trans (hb2.mono hb1.size);have HO:=ab9 (V8 (S:=fun b=>b<w2.heap.size) (w.heap.size+1) [(some ⟨w.heap.size,0,none⟩,1,1,[0]),(a,n,c,bs)] 2 rfl w2 (fun i p hp=>by
  match i,hp with
  |0,hp=>cases hp;simp[World.cell?,hh]
  |1,hp=>cases hp;simp[World.cell?,hh]
  |i+2,hp=>simp at hp) (uh.1 hh).1 (fun p hp=>by
  rcases aaq.1 hp with rfl|hp
  ·exact⟨fB ((Eu w 0).below hb2 ace),show 1≤10000000 by omega,Nat.le_refl _⟩
  ·obtain rfl:=List.mem_singleton.1 hp;exact⟨fB (hr.below rX ace),hn,hnc⟩) (by omega))
 have e:ng [(some ⟨w.heap.size,0,none⟩,1,1,[0]),(a,n,c,bs)]=[0]++bs:=by simp[ng]
 rw[e]at HO;have HW2:=ab9 hw2;have HB:=ab9 rX;clear hr hh hb1 hb2 rX hw2 e hz1;go_enter Tryz.func200,Tryz.ntmps200;go_wp2_with fail;rw[←HW2.o];refine HO.o.mono ?_;rintro e w3 ⟨a3,n3,c3,rfl,D9,hr3,hb3⟩;have HR3:=ab9 hr3;have HB3:=ab9 hb3;clear hr3 hb3;go_wp2_with fail;go_ret;have hs:=HB.o.size;exact⟨a3,n3,c3,rfl,D9,HR3.o.mono fun b hb=>⟨by omega,hb.2⟩,HB.o.trans (HB3.o.mono hs)⟩
theorem Wh{S S':Nat→Prop}(a b:Option Addr)(n c n' c':Nat)(bs bs':List UInt8)(w:World)(hr:ah S w a n (bs.map bv))(hr':ah S' w b n' (bs'.map bv))(hn:n≤10000000)(hnc:n≤c)(hn':n'≤10000000)(hnc':n'≤c'):
  Calls Tryz.prog 202 #[.slice a n c,.slice b n' c'] w (fJ w (kg ([1]++(bs++bs')))):=by
 have hb1:=wall w (.cells #[.int .u8 1] 5);have hb2:=wall (w.alloc (.cells #[.int .u8 1] 5)) (.cells #[.slice (some ⟨w.heap.size,0,none⟩) 1 1,.slice a n c,.slice b n' c'] 32);have hz1:(w.alloc (.cells #[.int .u8 1] 5)).heap.size=w.heap.size+1:=by simp
 have hh:=(MapKept.heap_alloc (w.alloc (.cells #[.int .u8 1] 5)) (.cells #[.slice (some ⟨w.heap.size,0,none⟩) 1 1,.slice a n c,.slice b n' c'] 32)).1;rw[hz1]at hh;obtain⟨w2,hw2⟩:∃w2,w2=(w.alloc (.cells #[.int .u8 1] 5)).alloc (.cells #[.slice (some ⟨w.heap.size,0,none⟩) 1 1,.slice a n c,.slice b n' c'] 32):=⟨_,rfl⟩;rw[←hw2]at hh hb2;have rX:=hb1.trans (hb2.mono hb1.size);have HO:=ab9 (V8 (S:=fun b=>b<w2.heap.size) (w.heap.size+1) [(some ⟨w.heap.size,0,none⟩,1,1,[1]),(a,n,c,bs),(b,n',c',bs')] 3 rfl w2 (fun i p hp=>by
  match i,hp with
  |0,hp=>cases hp;simp[World.cell?,hh]
  |1,hp=>cases hp;simp[World.cell?,hh]
  |2,hp=>cases hp;simp[World.cell?,hh]
  |i+3,hp=>simp at hp) (uh.1 hh).1 (fun p hp=>by
  rcases aaq.1 hp with rfl|hp
  ·exact⟨fB ((Eu w 1).below hb2 ace),show 1≤10000000 by omega,Nat.le_refl _⟩
  ·rcases aaq.1 hp with rfl|hp
   ·exact⟨fB (hr.below rX ace),hn,hnc⟩
   ·obtain rfl:=List.mem_singleton.1 hp;exact⟨fB (hr'.below rX ace),hn',hnc'⟩) (by omega))
 have e:ng [(some ⟨w.heap.size,0,none⟩,1,1,[1]),(a,n,c,bs),(b,n',c',bs')]=[1]++(bs++bs'):=by simp[ng]
 rw[e]at HO;have HW2:=ab9 hw2;have HB:=ab9 rX;clear hr hr' hh hb1 hb2 rX hw2 e hz1;go_enter Tryz.func202,Tryz.ntmps202;go_wp2_with fail;rw[←HW2.o];refine HO.o.mono ?_;rintro e w3 ⟨a3,n3,c3,rfl,D9,hr3,hb3⟩;have HR3:=ab9 hr3;have HB3:=ab9 hb3;clear hr3 hb3;go_wp2_with fail;go_ret;have hs:=HB.o.size;exact⟨a3,n3,c3,rfl,D9,HR3.o.mono fun b hb=>⟨by omega,hb.2⟩,HB.o.trans (HB3.o.mono hs)⟩
def nX:Nat→List (List UInt8)→List UInt8
 |0,_=>[]
 |f+1,L=>if L.length=0 then kg []else if L.length=1 then kg ([0]++L.getD 0 [])else kg ([1]++(nX f (L.take (BU L.length))++nX f (L.drop (BU L.length))))
theorem AY:∀(f:Nat) (L:List (List UInt8)),L.length<f→(nX f L).length=32
 |0,L,h=>by omega
 |f+1,L,h=>by
  unfold nX;by_cases h0:L.length=0
  ·rw[if_pos h0];exact dY _
  ·rw[if_neg h0];by_cases h1:L.length=1
   ·rw[if_pos h1];exact dY _
   ·rw[if_neg h1];exact dY _
structure zO(S:Nat→Prop)(w:World)(a:Option Addr)(n:Nat)(L:List uL):Prop where
 row:ah S w a n (L.map fun p=> .slice p.1 p.2.1 p.2.2.1)
 each:∀p∈L,ah S w p.1 p.2.1 (p.2.2.2.map bv)∧p.2.1≤10000000∧p.2.1≤p.2.2.1
theorem zO.below{S:Nat→Prop}{B:Nat}{w w':World}{a:Option Addr}{n:Nat}{L:List uL}(h:zO S w a n L)(hb:Below B w w')(hB:w.heap.size≤B):zO S w' a n L:=
 ⟨h.row.below hb hB,fun p hp=>⟨(h.each p hp).1.below hb hB,(h.each p hp).2⟩⟩
theorem zO.take{S:Nat→Prop}{w:World}{a:Option Addr}{n:Nat}{L:List uL}(h:zO S w a n L)(k:Nat)(hk:k≤n):zO S w a k (L.take k):=by
 refine⟨?_,fun p hp=>h.each p (aaK hp)⟩;have h9:=h.row.take k
 rwa [aa4 hk,←aaO]at h9
theorem zO.drop{S:Nat→Prop}{w:World}{b off:Nat}{n:Nat}{L:List uL}(h:zO S w (some ⟨b,off,none⟩) n L)(k:Nat):zO S w (some ⟨b,off+k,none⟩) (n-k) (L.drop k):=by
 refine⟨?_,fun p hp=>h.each p (abS hp)⟩;have h9:=h.row.drop k
 rwa [←aaR]at h9
def iK(L:List uL):List (List UInt8):=L.map (·.2.2.2)
theorem zP{S:Nat→Prop}:∀(f:Nat) (L:List uL) (n:Nat) (a:Option Addr) (c:Nat) (w:World),zO S w a n L→n<f→n≤c→n≤1000000→
  Calls Tryz.prog 143 #[.slice a n c] w (fJ w (nX f (iK L)))
 |0,L,n,a,c,w,_,h,_,_=>by omega
 |f+1,L,n,a,c,w,h,hf,hc,hn=>by
  have hl:L.length=n:=by simpa using h.row.length
  have hbl:(iK L).length=n:=by unfold iK;rw[List.length_map,hl]
  have HH:=ab9 h;by_cases h0:n=0
  ·subst h0;have HS:=ab9 (zM (S:=fun _=>True) none 0 0 [] w (ah.zero _ _ _ rfl rfl) (by omega) (by omega));have e:nX (f+1) (iK L)=kg []:=by rw[nX,if_pos hbl]
   rw[e];clear h hl hbl e HH;go_enter Tryz.func143,Tryz.ntmps143;go_wp2_with fail;refine HS.o.mono ?_;rintro e w3 ⟨a3,n3,c3,rfl,D9,hr3,hb3⟩;go_wp2_with fail;go_ret;exact⟨a3,n3,c3,rfl,D9,hr3,hb3⟩
  ·by_cases h1:n=1
   ·subst h1;obtain⟨p,rfl⟩:∃p,L=[p]:=List.length_eq_one_iff.1 hl;obtain⟨pa,pn,pc,pb⟩:=p;obtain⟨g1,g2,g3⟩:=h.each _ (List.mem_singleton.2 rfl);dsimp only at g1 g2 g3;have HS:=ab9 (Wd pa pn pc pb w g1 g2 g3);have e:nX (f+1) (iK [(pa,pn,pc,pb)])=kg ([0]++pb):=by rw[nX,if_neg (by simp[iK]),if_pos hbl];rfl
    rw[e];obtain⟨b,off,rfl,-,hbw,hcc⟩:=h.row.at_ (by omega);have hc0:=hcc 0 (by omega);have hcell:w.cell? ⟨b,off,none⟩=some (.slice pa pn pc):=hc0;have i1:(0:Int)<1:=by omega
    clear h hl hbl e HH hcc hc0 g1;go_enter Tryz.func143,Tryz.ntmps143;go_wp2_with fail;refine HS.o.mono ?_;rintro e w3 ⟨a3,n3,c3,rfl,D9,hr3,hb3⟩;go_wp2_with fail;go_ret;exact⟨a3,n3,c3,rfl,D9,hr3,hb3⟩
   ·obtain⟨k,hk⟩:∃k,k=BU n:=⟨_,rfl⟩;have hkl:=VB (n:=n) (by omega);rw[←hk]at hkl;have Wi:=ab9 (R6 n hn w);rw[←hk]at Wi;have e:nX (f+1) (iK L)=kg ([1]++(nX f (iK (L.take k))++nX f (iK (L.drop k)))):=by
     rw[nX,if_neg (by omega),if_neg (by omega),hbl,←hk];unfold iK;rw[aaO,aaR]
    rw[e];obtain⟨A,hA⟩:∃A,A=nX f (iK (L.take k)):=⟨_,rfl⟩;obtain⟨D,hD⟩:∃D,D=nX f (iK (L.drop k)):=⟨_,rfl⟩;have hAl:A.length=32:=by rw[hA];exact AY f _ (by unfold iK;rw[List.length_map,List.length_take];omega)
    have hDl:D.length=32:=by rw[hD];exact AY f _ (by unfold iK;rw[List.length_map,List.length_drop];omega)
    obtain⟨b,off,rfl,-,hbw,-⟩:=h.row.at_ (by omega);have HR1:acd (∀w',Below w.heap.size w w'→Calls Tryz.prog 143 #[.slice (some ⟨b,off,none⟩) k c] w' (fJ w' A)):=ab9 fun w' hb=>by
     rw[hA];exact zP f (L.take k) k _ c w' ((h.take k (by omega)).below hb ace) (by omega) (by omega) (by omega)
    have HR2:acd (∀w',Below w.heap.size w w'→Calls Tryz.prog 143 #[.slice (some ⟨b,off+k,none⟩) (n-k) (c-k)] w' (fJ w' D)):=ab9 fun w' hb=>by
     rw[hD];exact zP f (L.drop k) (n-k) _ (c-k) w' ((h.drop k).below hb ace) (by omega) (by omega) (by omega)
    rw[←hA,←hD];have i0:(0:Int)≤(k:Int):=by omega
    have i1:(k:Int)≤(n:Int):=by omega
    have i2:(n:Int)≤(c:Int):=by omega
    have i3:(k:Int)≤(c:Int):=by omega
    have i4:¬c=k:=by omega
    have V_:=ab9 hAl;have NI:=ab9 hDl;clear h hl hbl e HH hk hA hD hAl hDl;go_enter Tryz.func143,Tryz.ntmps143;go_wp2_with fail;refine Wi.o.mono ?_;rintro e _ ⟨rfl,rfl⟩;go_wp2_with fail;refine xG ((fun w'=>Below w.heap.size w w')) ?_ fun hS=> ?_
    ·exact acf.drew
    refine aR 0 hS ?_;refine aR 1 hS ?_;refine aR 2 hS ?_;refine aR 4 hS ?_;refine aR 5 hS ?_;refine aR 6 hS ?_;refine nK 3 fun K hK=> ?_;go_simp;refine(HR1.o _ hS).mono ?_;rintro e w1 ⟨a1,n1,c1,rfl,hn1,hr1,hb1⟩;obtain rfl:n1=32:=by have:=hr1.length;rw[List.length_map,V_.o]at this;exact this.symm
    have HB1:=ab9 (hS.trans (hb1.mono hS.size));have HRW1:=ab9 (fB hr1);clear hr1 hb1;go_wp2_with fail;refine mQ hK (HB1.o) fun hS=> ?_;clear hK K;refine nK 7 fun K hK=> ?_;go_simp;refine(HR2.o _ HB1.o).mono ?_;rintro e w2 ⟨a2,n2,c2,rfl,hn2,hr2,hb2⟩;obtain rfl:n2=32:=by have:=hr2.length;rw[List.length_map,NI.o]at this;exact this.symm
    have HB2:=ab9 (HB1.o.trans (hb2.mono HB1.o.size));have HP:=ab9 (Wh a1 a2 32 c1 32 c2 A D w2 (HRW1.o.below hb2 ace) hr2 (by omega) hn1 (by omega) hn2);clear hr2 hb2;go_wp2_with fail;refine mQ hK (HB2.o) fun hS=> ?_;clear hK K;refine nK 8 fun K hK=> ?_;go_simp;refine HP.o.mono ?_;rintro e w3 ⟨a3,n3,c3,rfl,D9,hr3,hb3⟩;have HR3:=ab9 hr3;have HB3:=ab9 (HB2.o.trans (hb3.mono HB2.o.size));have hs2:=HB2.o.size;clear hr3 hb3;go_wp2_with fail;refine mQ hK (HB3.o) fun hS=> ?_;clear hK K;refine aR 9 hS ?_;refine wQ ?_;clear hS;go_wp2_with fail;go_ret;exact⟨a3,n3,c3,rfl,D9,HR3.o.mono fun b hb=>⟨by omega,hb.2⟩,HB3.o⟩
def Gm:Nat→List RecM→Nat
 |_,[]=>0
 |left,x::r=>if (vZ x).length≤left then Gm (left-(vZ x).length) r+1 else 0
def uy(l:List RecM):Nat:=(l.map fun x=>(vZ x).length).sum
theorem Ev:∀(left:Nat) (l:List RecM),uy l≤left→Gm left l=l.length
 |_,[],_=>rfl
 |left,x::r,h=>by
  have h2:(vZ x).length+uy r≤left:=by simpa[uy]using h
  unfold Gm;rw[if_pos (by omega),Ev _ r (by omega),List.length_cons]
theorem K_{α:Type}{l:List α}{k:Nat}{x:α}(h:l[k]? =some x):l.drop k=x::l.drop (k+1):=by
 obtain⟨hk,e⟩:=aaj.1 h;rw[aa0 hk,e]
theorem La{Q:Nat→Prop}(l:List RecM)(hok:∀x∈l,zl x)(a:Option Addr)(n c:Nat)(w:World)(h:qc Q w a n l)(hn:n≤1000):
  Calls Tryz.prog 72 #[.slice a n c] w fun e w'=>e= .returned (.int .i64 (Gm 942 l:Int))∧Below w.heap.size w w':=by
 have HH:=ab9 h;have iM:=ab9 hok;have hl:=h.len;obtain⟨N,hN⟩:∃N,N=Gm 942 l:=⟨_,rfl⟩;rw[←hN];have HN:=ab9 hN;have HL:=ab9 hl;clear h hok hN hl;go_enter Tryz.func72,Tryz.ntmps72;go_wp2
 go_loopw [3,8] (fun lv iv wr=>∃k left:Nat,k≤n∧left≤942∧iv= .int .i64 k∧lv= .int .i64 left∧N=k+Gm left (l.drop k)∧Below w.heap.size w wr) (fun _ iv _=>n-(intOf iv).toNat)
 case atStart=>exact⟨0,942,by omega,by omega,rfl,rfl,by rw[HN.o];simp,Below.refl _ _⟩
 case round=>
  obtain⟨k,left,hk,hle,rfl,rfl,hfit,hb⟩:=hrel;have HB:=ab9 hb;by_cases hlt:k<n
  ·obtain⟨x,hx⟩:∃x,l[k]? =some x:=⟨l[k]'(by rw[HL.o];exact hlt),List.getElem?_eq_getElem _⟩;obtain⟨g,off,ha,hc,rfl,hgw,hcap,hrow,hcell⟩:=HH.o.cells hx;obtain⟨d0,d1,d2⟩:=hcell wr hb;have hxo:=iM.o x (aaI hx);rw[K_ hx]at hfit;have qD:=ab9 (fun w'=>nS x hxo ha hc w');have HRZ:=ab9 (fun w'=>Nl x hxo ha hc w');obtain⟨L,hL⟩:∃L,L=(vZ x).length:=⟨_,rfl⟩;rw[←hL]at HRZ;unfold Gm at hfit;rw[←hL]at hfit;unfold zi at qD HRZ;have i0:(0:Int)≤(k:Int):=by omega
   have i1:(k:Int)<(n:Int):=by omega
   have hd:decide ((k:Int)<(n:Int))=true:=by simpa using i1
   clear hx hcell hrow hcap hb hxo hL;have HF:=ab9 hfit;clear hfit;go_wp2_with fail;obtain⟨w1,hw1⟩:∃w1,w1=wr.alloc (.cells #[.int .i64 x.kind,.int .u64 x.seq,.slice ha x.body.length hc] 69):=⟨_,rfl⟩;have hb1:Below wr.heap.size wr w1:=by rw[hw1];exact wall wr _
   have hx1:w1.heap[wr.heap.size]? =some (.cells (zi x ha hc) 69 (0,0)):=by rw[hw1];exact(MapKept.heap_alloc wr _).1
   rw[←hw1];have hz1:=(uh.1 hx1).1;have HX:=ab9 (fun u (hb:Below w1.heap.size w1 u)=>zH ((hb.block wr.heap.size hz1).trans hx1));have HB1:=ab9 (HB.o.trans (hb1.mono HB.o.size));clear hw1 hx1 hb1;refine(qD.o w1).mono ?_;rintro e w2 ⟨rfl,hb2⟩;obtain⟨c0,c1,c2⟩:=HX.o w2 hb2;have HB2:=ab9 hb2;by_cases hfits:L≤left
   ·have dl:decide ((left:Int)<(L:Int))=false:=aaf (by omega);have ew:IntKind.i64.wrap ((left:Int)-(L:Int))=((left-L:Nat):Int):=by rw[aah _ (by omega)];omega
    have EW:=ab9 ew;clear hb2 ew;go_wp2_with fail;refine(HRZ.o w2).mono ?_;rintro e w3 ⟨rfl,hb3⟩;have HB3:=ab9 (HB2.o.trans (hb3.mono HB2.o.size));clear c0 c1 c2 hb3;obtain⟨c0,c1,c2⟩:=HX.o w3 HB3.o;go_wp2_with fail;refine(HRZ.o w3).mono ?_;rintro e w4 ⟨rfl,hb4⟩;have dh:=ab9 (HB3.o.trans (hb4.mono HB3.o.size));clear hb4 c0 c1 c2;have ew:=EW.o;go_wp2_with fail;go_roundw
    case rel=>
     have hfit:=HF.o;rw[if_pos hfits]at hfit;exact⟨k+1,left-L,by omega,by omega,by go_num,rfl,by omega,HB1.o.trans (dh.o.mono HB1.o.size)⟩
    case measure=>simp[intOf];omega
   ·have dl:decide ((left:Int)<(L:Int))=true:=aal (by omega);clear hb2;go_wp2_with fail;refine(HRZ.o w2).mono ?_;rintro e w3 ⟨rfl,hb3⟩;have HB3:=ab9 (HB2.o.trans (hb3.mono HB2.o.size));clear c0 c1 c2 hb3;go_wp2_with fail;go_ret;have hfit:=HF.o;rw[if_neg hfits]at hfit;exact⟨by rw[hfit];rfl,HB1.o.trans (HB3.o.mono HB1.o.size)⟩
  ·have hd:decide ((k:Int)<(n:Int))=false:=by simp;omega
   have hkn:k=n:=by omega
   have hfn:Gm left (l.drop k)=0:=by rw[aaC (by rw[HL.o];omega)];rfl
   go_wp2_with fail;go_ret;exact⟨by rw[hfit,hfn,hkn];rfl,HB.o⟩
theorem Tryz.ZJ:(Tryz.prog.info? 32).map (fun i=>(i.zero,i.size,i.bytes))=some (some (.slice none 0 0),1,24):=by kernel_rfl
structure ni(B:Nat)(w:World)(v:Value)(L:List uL):Prop where
 own:w.ownsRow B 32 1 v L.length (L.map fun p=> .slice p.1 p.2.1 p.2.2.1)
 each:∀p∈L,ah (fun b=>B≤b∧b<w.heap.size∧v.ownBlock≠some b) w p.1 p.2.1 (p.2.2.2.map bv)∧p.2.1≤10000000∧p.2.1≤p.2.2.1
theorem ni.nil(B:Nat)(w:World):ni B w (.slice none 0 0) []:=⟨⟨rfl,.inl ⟨rfl,rfl⟩⟩,fun p hp=>by cases hp⟩
theorem ni.below{B:Nat}{w w':World}{v:Value}{L:List uL}(h:ni B w v L)(hb:Below w.heap.size w w'):ni B w' v L:=
 ⟨jk h.own hb,fun p hp=>⟨((h.each p hp).1.below hb ace).mono fun b h1=>⟨h1.1,by have:=hb.size;omega,h1.2.2⟩,(h.each p hp).2⟩⟩
theorem ni.add{B:Nat}{w w2:World}{v:Value}{L:List uL}{o:Obj}{A':Option Addr}{c':Nat}(h:ni B w v L)(p:uL)(hp:ah (fun b=>B≤b∧b<w.heap.size∧v.ownBlock≠some b) w p.1 p.2.1 (p.2.2.2.map bv))(h1:p.2.1≤10000000)(h2:p.2.1≤p.2.2.1)
  (hown:w2.ownsRow B 32 1 (.slice A' (L.length+1) c') (L.length+1) (L.map (fun p=> .slice p.1 p.2.1 p.2.2.1)++[.slice p.1 p.2.1 p.2.2.1]))(hg:(w.alloc o).grownBy w2 v.ownBlock)(hblk:(Value.slice A' (L.length+1) c').ownBlock=v.ownBlock∨(Value.slice A' (L.length+1) c').ownBlock=some (w.alloc o).heap.size):ni B w2 (.slice A' (L.length+1) c') (L++[p]):=by
 have hsz:(w.alloc o).heap.size=w.heap.size+1:=Pd _ _;have hs2:=hg.size;have hmv:∀{a:Option Addr} {n:Nat} {vs:List Value},ah (fun b=>B≤b∧b<w.heap.size∧v.ownBlock≠some b) w a n vs→ah (fun b=>B≤b∧b<w2.heap.size∧(Value.slice A' (L.length+1) c').ownBlock≠some b) w2 a n vs:=fun hr=>hr.move (by omega) fun b hb hbw=>⟨⟨hb.1,by omega,fun e=>by
  rcases hblk with h9|h9
  ·rw[h9]at e;exact hb.2.2 e
  ·rw[h9]at e;have:=aaH e;omega⟩,(hg.block b (by omega) fun e=>hb.2.2 e.symm).trans (Below.heap_alloc w o b hbw)⟩
 refine⟨by simpa using hown,fun q hq=> ?_⟩;rcases aas.1 hq with hq|hq
 ·exact⟨hmv (h.each q hq).1,(h.each q hq).2⟩
 ·rw[List.mem_singleton]at hq;subst hq;exact⟨hmv hp,h1,h2⟩
theorem ni.at_{B n c:Nat}{w:World}{a:Option Addr}{L:List uL}(h:ni B w (.slice a n c) L):n=L.length∧n≤c∧zO (fun b=>B≤b∧b<w.heap.size) w a n L:=by
 obtain⟨h1,h2⟩:=ah.mU h.own;obtain⟨a',c',e,h3⟩:=bG h.own;cases e;exact⟨rfl,h3,h2,fun p hp=>⟨(h.each p hp).1.mono fun b hb=>⟨hb.1,hb.2.1⟩,(h.each p hp).2⟩⟩
def LvRet(w:World)(bs:List (List UInt8))(e:Ending)(w':World):Prop:=
 ∃a n c L,e= .returned (.slice a n c)∧n≤c∧n=bs.length∧zO (fun b=>w.heap.size≤b∧b<w'.heap.size) w' a n L∧iK L=bs∧Below w.heap.size w w'
theorem Ew{Q:Nat→Prop}(l:List RecM)(hok:∀x∈l,zl x)(a:Option Addr)(n c:Nat)(w:World)(h:qc Q w a n l)(hn:n≤1000):
  Calls Tryz.prog 142 #[.slice a n c] w (LvRet w (l.map vZ)):=by
 have HH:=ab9 h;have iM:=ab9 hok;have hl:=h.len;have HL:=ab9 hl;obtain⟨i0,hi,hz0,hz1,hz2⟩:=aay Tryz.ZJ;clear h hok hl;go_enter Tryz.func142,Tryz.ntmps142;go_wp2
 go_loopw [3,10] (fun v iv wr=>∃(k:Nat) (L:List uL),k≤n∧iv= .int .i64 k∧L.length=k∧ni w.heap.size wr v L∧iK L=(l.take k).map vZ∧Below w.heap.size w wr) (fun _ iv _=>n-(intOf iv).toNat)
 case atStart=>exact⟨0,[],by omega,rfl,rfl,ni.nil _ _,rfl,Below.refl _ _⟩
 case round=>
  obtain⟨k,L,hk,rfl,hLk,hLv,hLb,hb⟩:=hrel;have HB:=ab9 hb;have ZK:=ab9 hLv;have HLB:=ab9 hLb;obtain⟨av,cv,rfl,hcv⟩:=bG hLv.own;rw[hLk]at ZK hcv⊢;have yO:=ab9 hLk;by_cases hlt:k<n
  ·obtain⟨x,hx⟩:∃x,l[k]? =some x:=⟨l[k]'(by rw[HL.o];exact hlt),List.getElem?_eq_getElem _⟩;obtain⟨g,off,ha,hc,rfl,hgw,hcap,hrow,hcell⟩:=HH.o.cells hx;obtain⟨d0,d1,d2⟩:=hcell wr hb;have hxo:=iM.o x (aaI hx);have HX:=ab9 hx;have i0':(0:Int)≤(k:Int):=by omega
   have i1:(k:Int)<(n:Int):=by omega
   have hd:decide ((k:Int)<(n:Int))=true:=by simpa using i1
   have gN:=ab9 hrow;clear hx hcell hrow hLv hLb hLk;go_wp2_with fail;obtain⟨w1,hw1⟩:∃w1,w1=wr.alloc (.cells #[.int .i64 x.kind,.int .u64 x.seq,.slice ha x.body.length hc] 69):=⟨_,rfl⟩;have hb1:Below wr.heap.size wr w1:=by rw[hw1];exact wall wr _
   rw[←hw1];have HB1:=ab9 hb1;have HW1:=ab9 (HB.o.trans (hb1.mono HB.o.size));have HE:acd (Calls Tryz.prog 199 #[.agg #[.int .i64 x.kind,.int .u64 x.seq,.slice ha x.body.length hc]] w1 (Cx w1 (vZ x))):=ab9 (RJ x hxo ha hc w1 (gN.o.below HW1.o ace) hcap);have hxb:=hxo.body;have hz1':w1.heap.size=wr.heap.size+1:=by rw[hw1];simp
   clear hw1 hb1 hb hxo d0 d1 d2;refine HE.o.mono ?_;rintro e w2 ⟨a2,n2,c2,rfl,hc2,hr2,hb2⟩;have hn2:n2=15+x.body.length:=by have:=hr2.length;rw[List.length_map,sP]at this;omega
   have HLV2:=ab9 (ZK.o.below (HB1.o.trans (hb2.mono HB1.o.size)));have HR2:=ab9 hr2;have HW2:=ab9 (HW1.o.trans (hb2.mono HW1.o.size));have hs2:=hb2.size;have hsr:=HB.o.size;have MU:=ab9 hn2;have HOWN:acd ((w2.alloc (.cells #[.slice a2 n2 c2] 32)).ownsRow w.heap.size 32 1 (.slice av k cv) k (L.map fun p=> .slice p.1 p.2.1 p.2.2.1)):=by
    have h9:=HLV2.o.own;rw[yO.o]at h9;exact jk h9 (wall _ _)
   clear hr2 hb2 hn2;go_wp2_with (at_builtin;refine bV rfl _ _ 229 rfl w.heap.size 32 i0 (.slice none 0 0) 24 Tryz.underlying229 hi hz0 hz1 hz2 rfl (.slice av k cv) k _ rfl HOWN.o (some ⟨w2.heap.size,0,none⟩) 1 1 [.slice a2 n2 c2] rfl (yQ _ _) (by simp[Value.oneCell']) (by unfold maxLen;omega) (by omega) (by simp;omega) ?_;intro A1 k1 w3 hown3 hg3 _ Wj;have K9:=ab9 hown3;have HG3:=ab9 hg3;have Vf:=ab9 Wj;clear hown3 hg3 Wj);go_roundw
   case rel=>
    have hlk:=yO.o;have hown3:=K9.o;have Wj:=Vf.o;have hn2:=MU.o;have CG:=HX.o;obtain⟨hkl,ek⟩:=aaj.1 CG;have hp:ah (fun b=>w.heap.size≤b∧b<w2.heap.size∧(Value.slice av k cv).ownBlock≠some b) w2 a2 n2 ((vZ x).map bv):=HR2.o.mono fun b hb=>⟨by omega,hb.2,fun e=>by have:=jf ZK.o.own b e;omega⟩;rw[←hlk]at hown3 Wj hp;have h9:=ni.add (A':=A1) (c':=k1) (by have h8:=HLV2.o;rw[←hlk]at h8;exact h8) (a2,n2,c2,vZ x) hp (by dsimp only;omega) hc2 hown3 (by have h8:=HG3.o;rw[←hlk]at h8;exact h8) Wj;rw[hlk]at h9;refine⟨k+1,L++[(a2,n2,c2,vZ x)],by omega,by go_num,by rw[List.length_append,hlk];rfl,h9,?_,?_⟩
    ·unfold iK;rw[aaz,show List.map (·.2.2.2) L=iK L from rfl,HLB.o,aai hkl,ek,aaz];rfl
    ·have h8:=HG3.o;exact(HW2.o.trans ((wall w2 _).mono (by omega))).trans ((Keeps.grown h8).bQ (B:=w.heap.size) (by rw[Pd];omega) fun y hy e=>by
      have h7:=bC ZK.o.own y e;omega)
   case measure=>simp[intOf];omega
  ·have hd:decide ((k:Int)<(n:Int))=false:=by simp;omega
   obtain rfl:k=n:=by omega
   clear hLv hLb hLk hb;go_wp2_with fail;go_ret;obtain⟨-,h2,h3⟩:=ZK.o.at_;refine⟨av,k,cv,L,rfl,h2,by rw[List.length_map,HL.o],h3,?_,HB.o⟩;rw[HLB.o,List.take_of_length_le (by rw[HL.o];exact Nat.le_refl _)]
end Go.Proofs.YtmflaonodghbcaaGreatDoor
