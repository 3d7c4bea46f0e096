/- package -/
import Derived.Test.YtjnhnlabpccgjaaGreatDoorM18
import Derived.Test.YtjnhnlabpccgjaaGreatDoorM16
import Derived.Test.YtjnhnlabpccgjaaGreatDoorM08
import Derived.Test.YtjnhnlabpccgjaaGreatDoorM01
import Derived.Deep.RegionHeld3
import Derived.Test.YtjnhnlabpccgjaaGreatDoorM12
import Derived.WalkLawsBesides
import Derived.BigQuiet
set_option maxRecDepth 100000
set_option maxHeartbeats 64000000
set_option linter.all false
namespace Go.Proofs.YtjnhnlabpccgjaaGreatDoor
open Go.ChangeShapes Go.WideShapes Go.ChangeAt Go.RowKit
def pz(z:Int):Value:= .agg #[.int .i64 z,.int .i64 0,.slice none 0 0,.slice none 0 0,.int .i64 0,.int .i64 0,.int .i64 0,.int .i64 0,.int .u64 0,.bool false]
theorem vD(z:Int)(w:World):Calls Tryz.prog 70 #[.int .i64 z] w fun e w'=>e= .returned (pz z)∧Below w.heap.size w w':=by
 go_enter Tryz.func70,Tryz.ntmps70;go_wp2;refine aaB (v:=pz z) (by simp[results,Tryz.results70,pz,go_sem]) rfl ⟨rfl,wall w _⟩
section
variable{W w:World}{o:Mark}{i j k p:Nat}{M:dQ}
def T_(o:Mark)(w:World)(M:dQ)(n:Int)(b:Bool)(e:Ending):Prop:=
 (jF M n b=none∧e= .returned (.tuple #[.pointer none,.bool false]))∨∃f v,jF M n b=some f∧e= .returned (.tuple #[v,.bool true])∧BO o w v (some f)
theorem Mi(h:eG o i j k w p M)(n:Int)(b:Bool):Calls Tryz.prog 145 #[ptr p,.int .i64 n,.bool b] w fun e w'=>w'=w∧T_ o w M n b e:=by
 obtain⟨t,s,v,h1,h2,h3,h4⟩:=h.at_;obtain⟨c0,c1,c2,c3,c4⟩:=lq h1;have H4:=acr h4;have C3:=acr c3;clear h h1 h2 h3 h4 c3 c4;by_cases hn0:n<0
 ·have hg:acs (jF M n b=none):=by have:jF M n b=none:=by unfold jF;rw[if_neg (by omega)]
                                  exact acr this
  have hd:decide (n<0)=true:=by simpa using hn0
  go_enter ab3,abV;go_wp2_with fail
  go_ret2
  exact⟨rfl,.inl ⟨hg.o,rfl⟩⟩
 ·by_cases mQ:8≤n
  ·have hg:acs (jF M n b=none):=by have:jF M n b=none:=by unfold jF;rw[if_neg (by omega)]
                                   exact acr this
   have hd:decide (n<0)=false:=by simpa using hn0
   have hd2:decide (8≤n)=true:=by simpa using mQ
   go_enter ab3,abV;go_wp2_with fail
   go_ret2
   exact⟨rfl,.inl ⟨hg.o,rfl⟩⟩
  ·obtain⟨m,rfl⟩:∃m:Nat,n=m:=⟨n.toNat,by omega⟩;have hm:m<8:=by omega
   have hcm:=C3.o m hm;have hf:=H4.o m hm;have hg:jF M m b=match M.fds m with|some f=>if f.wr=b then some f else none|none=>none:=by
    unfold jF;rw[if_pos (by omega)];rfl
   have hd:decide ((m:Int)<0)=false:=by simp
   have hd2:decide (8≤(m:Int))=false:=by simp;omega
   have i0:(0:Int)≤m:=by omega
   have i1:(m:Int)<8:=by omega
   cases yM:M.fds m with
   |none=>
    rw[yM]at hf hg;have hv:v m= .pointer none:=hf;rw[hv]at hcm;have HG:=acr hg;clear hf hg yM hv;go_enter ab3,abV;go_wp2_with fail
    go_ret2
    exact⟨rfl,.inl ⟨HG.o,rfl⟩⟩
   |some f=>
    rw[yM]at hf hg;have HF:=acr hf;obtain⟨q,a,c,hv,hq0,hq1,hq2,_,_⟩:=hf;rw[hv]at hcm HF;have q0:w.cell? ⟨q,0,none⟩=some (.bool f.wr):=by simp[World.cell?,hq2]
    obtain⟨fw,fi,fb⟩:=f;have HG:=acr hg;clear hg yM hv hq2;cases fw with
    |false=>
     cases b with
     |false=>
      go_enter ab3,abV;go_wp2_with fail
      go_ret2
      exact⟨rfl,.inr ⟨⟨false,fi,fb⟩,_,HG.o.trans (if_pos trivial),rfl,HF.o⟩⟩
     |true=>
      go_enter ab3,abV;go_wp2_with fail
      go_ret2
      exact⟨rfl,.inl ⟨HG.o.trans (if_neg (by simp)),rfl⟩⟩
    |true=>
     cases b with
     |false=>
      go_enter ab3,abV;go_wp2_with fail
      go_ret2
      exact⟨rfl,.inl ⟨HG.o.trans (if_neg (by simp)),rfl⟩⟩
     |true=>
      go_enter ab3,abV;go_wp2_with fail
      go_ret2
      exact⟨rfl,.inr ⟨⟨true,fi,fb⟩,_,HG.o.trans (if_pos trivial),rfl,HF.o⟩⟩
end
abbrev wX(a b:Int):Int:=bits .or .u32 a b
abbrev Du(a b:Int):Int:=bits .xor .u32 a b
abbrev Ua(a b:Int):Int:=bits .and .u32 a b
def lu(x:Int)(s:Nat):Int:=wX (x*2^s%4294967296) (x/2^(32-s))
def Dv(a b c d:UInt8):Int:=wX (wX (wX (wX 0 ((d.toNat:Int)%4294967296)) ((c.toNat:Int)%4294967296*256%4294967296)) ((b.toNat:Int)%4294967296*65536%4294967296)) ((a.toNat:Int)%4294967296*16777216%4294967296)
def kM:List Int:=[1116352408,1899447441,3049323471,3921009573,961987163,1508970993,2453635748,2870763221,3624381080,310598401,607225278,1426881987,1925078388,2162078206,2614888103,3248222580,3835390401,4022224774,264347078,604807628,770255983,1249150122,1555081692,1996064986,2554220882,2821834349,2952996808,3210313671,3336571891,3584528711,113926993,338241895,666307205,773529912,1294757372,1396182291,1695183700,1986661051,2177026350,2456956037,2730485921,2820302411,3259730800,3345764771,3516065817,3600352804,4094571909,275423344,430227734,506948616,659060556,883997877,958139571,1322822218,1537002063,1747873779,1955562222,2024104815,2227730452,2361852424,2428436474,2756734187,3204031479,3329325298]
def IQ:List Int:=[1779033703,3144134277,1013904242,2773480762,1359893119,2600822924,528734635,1541459225]
abbrev jy(z:Int):Value:= .int .u32 z
abbrev Ot(z:Int):Int:=z%4294967296
def Bh(b:List UInt8)(i:Nat):Int:=Dv ((b.drop (i*4)).getD 0 0) ((b.drop (i*4)).getD 1 0) ((b.drop (i*4)).getD 2 0) ((b.drop (i*4)).getD 3 0)
def sg0(x:Int):Int:=Du (Du (lu x 25) (lu x 14)) (x/8)
def sg1(x:Int):Int:=Du (Du (lu x 15) (lu x 13)) (x/1024)
def JE(ws:List Int):Int:=Ot (Ot (Ot (ws.getD (ws.length-16) 0+sg0 (ws.getD (ws.length-15) 0))+ws.getD (ws.length-7) 0)+sg1 (ws.getD (ws.length-2) 0))
def oK(b:List UInt8):Nat→List Int
 |0=>(List.range 16).map (Bh b)
 |n+1=>oK b n++[JE (oK b n)]
theorem xI(b:List UInt8):∀n,(oK b n).length=16+n
 |0=>by simp[oK]
 |n+1=>by unfold oK;rw[List.length_append,xI b n];simp;omega
structure xJ where
 a:Int
 c:Int
 d:Int
 e:Int
 f:Int
 g:Int
 h:Int
 j:Int
def bnot(x:Int):Int:=bits .xor .u32 (if IntKind.u32.signed=true then-1 else IntKind.u32.max) x
def tM(s:xJ)(k w:Int):Int:=Ot (s.j+Du (Du (lu s.f 26) (lu s.f 21)) (lu s.f 7)+Du (Ua s.f s.g) (Ua (bnot s.f) s.h)+k+w)
def uM(s:xJ):Int:=Ot (Du (Du (lu s.a 30) (lu s.a 19)) (lu s.a 10)+Du (Du (Ua s.a s.c) (Ua s.a s.d)) (Ua s.c s.d))
def Dw(s:xJ)(k w:Int):xJ:=⟨Ot (tM s k w+uM s),s.a,s.c,s.d,Ot (s.e+tM s k w),s.f,s.g,s.h⟩
def ru(s:xJ)(ws:List Int):Nat→xJ
 |0=>s
 |n+1=>Dw (ru s ws n) (kM.getD n 0) (ws.getD n 0)
def xJ.list(s:xJ):List Int:=[s.a,s.c,s.d,s.e,s.f,s.g,s.h,s.j]
def xJ.of(h:List Int):xJ:=⟨h.getD 0 0,h.getD 1 0,h.getD 2 0,h.getD 3 0,h.getD 4 0,h.getD 5 0,h.getD 6 0,h.getD 7 0⟩
def jG(h:List Int)(b:List UInt8):List Int:=List.zipWith (fun x y=>Ot (x+y)) h (ru (xJ.of h) (oK b 48) 64).list
theorem tu(h:List Int)(b:List UInt8)(hl:h.length=8):(jG h b).length=8:=by unfold jG;rw[List.length_zipWith,hl];rfl
def runM(h:List Int):Nat→List UInt8→List Int
 |0,_=>h
 |n+1,b=>runM (jG h (b.take 64)) n (b.drop 64)
theorem yY:∀(n:Nat) (h:List Int) (b:List UInt8),h.length=8→(runM h n b).length=8
 |0,h,b,hl=>hl
 |n+1,h,b,hl=>yY n _ _ (tu h _ hl)
theorem Bj{P:Program}{md:Region.Mode}{ops:Array Oper}{Q:Exit→Act→World→Prop}{S S':World→Prop}(h:∀w,S' w→S w):
  ∀(fuel:Nat) (listed:Array Bool) (a:Act) (w:World),wpAnyH P md ops Q S' fuel listed a w→wpAnyH P md ops Q S fuel listed a w
 |0,_,_,_,hw=>hw
 |fuel+1,_,_,_,hw=>⟨hw.1,fun i hi=>wpOp_mono (fun _ _ h'=>⟨h _ h'.1,Bj h fuel _ _ _ h'.2⟩) (hw.2 i hi)⟩
open Go
theorem aX{P:Program}{ops:Array Oper}{Q:Exit→Act→World→Prop}{md:Region.Mode}{S:World→Prop}(i:Nat){oi:Oper}{v:Value}{fuel:Nat}{listed l':Array Bool}{a a':Act}{w:World}
  (hS:S w)(h:wpAnyH P md ops Q S fuel l' a' w)
  (hi:ops[i]? =some oi:=by simp only[aaq,aas,aai];rfl)
  (hs:Region.noSelect ops=true:=by kernel_rfl)(hf:Region.free md ops listed i=true:=by kernel_rfl)(hr:(Region.ready md ops listed).contains i=true:=by kernel_rfl)
  (hQ:∀c a w,Q (.panic c) (a.put oi.dst v) w→Q (.panic c) a w:=by exact fun _ _ _ h=>h)
  (hw:Region.wanted oi (yielded ops a.tmps)=true:=by rfl)
  (hy:∀w,S w→(execOp a.eval oi).run P w= .ok (.value v) w:=by intro w hSw;(try dsimp only at hSw);go_simp;(try with_reducible rfl))
  (hl:listed.setIfInBounds i true=l':=by(try simp only[aav,aaJ,aaP]);rfl)
  (ha:a.put oi.dst v=a':=by(try simp only[Act.put,aav,aaJ,aaP]);rfl)
  :wpAnyH P md ops Q S (fuel+1) listed a w:=
 wpAnyH_take hi hs hf hr hQ (Or.inl ⟨hw,hy⟩) hS (by rw[hl,ha];exact h)
theorem Bl{P:Program}{ops:Array Oper}{Q:Exit→Act→World→Prop}{md:Region.Mode}{S:World→Prop}(i:Nat){o:Oper}{fuel:Nat}{listed:Array Bool}{a:Act}{w:World}
  (h:∀K':Act→World→Prop,Shut (∀a w,S w→(S w→wpAnyH P md ops Q S fuel (listed.setIfInBounds i true) a w)→K' a w)→if Region.wanted o (yielded ops a.tmps)=true then Oper.wp P o a w K' Q else K' (a.put o.dst undef) w)
  (ho:ops[i]? =some o:=by simp only[aaq,aas,aai];rfl)(hr:Region.ready md ops listed=[i]:=by kernel_rfl):wpAnyH P md ops Q S (fuel+1) listed a w:=
 wpAnyH_ready hr (by simp) (AllReadyH.cons ho h AllReadyH.nil)
theorem Ag{P:Program}{ops:Array Oper}{Q:Exit→Act→World→Prop}{md:Region.Mode}{S:World→Prop}{i:Nat}{fuel:Nat}{listed l':Array Bool}{a a':Act}{w:World}{K:Act→World→Prop}
  (hK:Shut (∀a w,S w→(S w→wpAnyH P md ops Q S fuel (listed.setIfInBounds i true) a w)→K a w))(hS:S w)(h:S w→wpAnyH P md ops Q S fuel l' a' w)
  (hl:listed.setIfInBounds i true=l':=by(try simp only[aav,aaJ,aaP]);rfl)
  (ha:a=a':=by(try simp only[Act.put,aav,aaJ,aaP]);rfl):K a w:=by
 subst hl ha;exact hK a w hS h
theorem Bn{P:Program}{ops:Array Oper}{Q:Exit→Act→World→Prop}{md:Region.Mode}{S:World→Prop}{fuel:Nat}{listed:Array Bool}{a:Act}{w:World}(h:Q .normal a w)(hr:Region.ready md ops listed=[]:=by kernel_rfl):wpAnyH P md ops (NoPanic Q) S fuel listed a w:=
 wpAnyH_done hr (NoPanic.normal h) _
theorem BP{P:Program}{ops:Array Oper}{Q:Exit→Act→World→Prop}(S:World→Prop){id:Nat}{a:Act}{w:World}(hS:S w.drew)
  (h:S w.drew→wpAnyH P .any ops (NoPanic Q) S ops.size (Array.replicate ops.size false) a w.drew)(hm:P.follows .mixedOrders=true:=by kernel_rfl):(Code.region id ops true).wp P Q a w:=
 wp_region_noPanic (wp_region_held_drew hm hS h)
def Mj(ws:List Int):Array Value:=((ws++List.replicate (64-ws.length) 0).map jy).toArray
theorem Ub(ws:List Int)(x:Int)(h:ws.length<64):(Mj ws).setIfInBounds ws.length (jy x)=Mj (ws++[x]):=by
 unfold Mj;rw[aav];congr 1;have e:64-ws.length=(64-(ws++[x]).length)+1:=by simp;omega
 rw[e,List.replicate_succ,List.map_append,List.map_append,List.map_cons,List.set_append_right _ _ (by simp)];simp
theorem XG(ws:List Int)(i:Nat)(h:i<ws.length):(Mj ws)[i]? =some (jy (ws.getD i 0)):=by
 unfold Mj;rw[aaq,List.getElem?_map,aaN h,aaL,List.getElem?_eq_getElem h];rfl
theorem yZ{w:World}{b i:Nat}{ws:List Int}(hw:w.heap[b]? =some (.cells (Mj ws) 218 (0,0)))(h:i<ws.length):w.cell? ⟨b,i,none⟩=some (jy (ws.getD i 0)):=by
 rw[←XG ws i h];simp[World.cell?,hw]
theorem XH{w:World}{b i:Nat}{ws:List Int}(hw:w.heap[b]? =some (.cells (Mj ws) 218 (0,0)))(h:ws.length≤i)(h64:i<64):w.cell? ⟨b,i,none⟩=some (.int .u32 0):=by
 have:(Mj ws)[i]? =some (.int .u32 0):=by
  unfold Mj;rw[aaq,List.getElem?_map,aaw h,List.getElem?_replicate,if_pos (by omega)];rfl
 rw[←this];simp[World.cell?,hw]
theorem Uc{w:World}{b:Nat}{ws:List Int}(hw:w.heap[b]? =some (.cells (Mj ws) 218 (0,0)))(h:ws.length<64)(x:Int):(w.setCell ⟨b,ws.length,none⟩ (jy x)).heap[b]? =some (.cells (Mj (ws++[x])) 218 (0,0)):=by
 rw[aO hw,Ub ws x h]
theorem FX{B:Nat}{w wr:World}(hb:Below B w wr)(hB:B≤wr.heap.size){x:Nat}(hx:B≤x)(i:Nat)(v:Value):Below B w (wr.setCell ⟨x,i,none⟩ v):=
 hb.trans ((Keeps.gI wr ⟨x,i,none⟩ v).gP hB fun y hy (he:y=x)=>by omega)
theorem eight{α:Type}{l:List α}(h:l.length=8):∃a b c d e f g i,l=[a,b,c,d,e,f,g,i]:=by
 match l,h with
 |[a,b,c,d,e,f,g,i],_=>exact⟨a,b,c,d,e,f,g,i,rfl⟩
theorem XI{A B:List Int}{tail:List Value}{k:Nat}(hA:A.length=8)(hB:B.length=8)(hk:k<8):(((A.take k++B.drop k).map jy++tail).toArray).setIfInBounds k (jy (A.getD k 0))=((A.take (k+1)++B.drop (k+1)).map jy++tail).toArray:=by
 obtain⟨a0,a1,a2,a3,a4,a5,a6,a7,rfl⟩:=eight hA;obtain⟨b0,b1,b2,b3,b4,b5,b6,b7,rfl⟩:=eight hB;rw[aav]
 match k,hk with
 |0,_=>rfl
 |1,_=>rfl
 |2,_=>rfl
 |3,_=>rfl
 |4,_=>rfl
 |5,_=>rfl
 |6,_=>rfl
 |7,_=>rfl
theorem Ou{A B:List Int}{tail:List Value}{k:Nat}(hA:A.length=8)(hB:B.length=8)(hk:k<8):(((A.take k++B.drop k).map jy++tail).toArray)[k]? =some (jy (B.getD k 0)):=by
 obtain⟨a0,a1,a2,a3,a4,a5,a6,a7,rfl⟩:=eight hA;obtain⟨b0,b1,b2,b3,b4,b5,b6,b7,rfl⟩:=eight hB;rw[aaq]
 match k,hk with
 |0,_=>rfl
 |1,_=>rfl
 |2,_=>rfl
 |3,_=>rfl
 |4,_=>rfl
 |5,_=>rfl
 |6,_=>rfl
 |7,_=>rfl
theorem FY{A:List Int}{k:Nat}(hA:A.length=8)(hk:k<8):((A.map jy).toArray)[k]? =some (jy (A.getD k 0)):=by
 have:=Ou (A:=A) (B:=A) (tail:=[]) hA hA hk;rw[aaR,aaA]at this;exact this
theorem Ml{h:List Int}{b:List UInt8}{k:Nat}(hl:h.length=8)(hk:k<8):(jG h b).getD k 0=Ot (h.getD k 0+(ru (xJ.of h) (oK b 48) 64).list.getD k 0):=by
 unfold jG;obtain⟨a0,a1,a2,a3,a4,a5,a6,a7,rfl⟩:=eight hl;generalize ru _ _ _=st
 match k,hk with
 |0,_=>rfl
 |1,_=>rfl
 |2,_=>rfl
 |3,_=>rfl
 |4,_=>rfl
 |5,_=>rfl
 |6,_=>rfl
 |7,_=>rfl
theorem pQ{P:Program}{f:FuncId}{args:Array Value}{w:World}{v:Value}(h:Calls P f args w fun e w'=>e= .returned v∧w=w'):Calls P f args w fun e w'=>e= .returned v∧w'=w:=h.mono fun e w' ⟨h1,h2⟩=>⟨h1,h2.symm⟩
theorem hBQD{B:Nat}{w w1:World}(h:Below B w w1):Below B w w1.drew:=⟨h.os,h.tape,h.output,h.size,h.block⟩
end Go.Proofs.YtjnhnlabpccgjaaGreatDoor
