/- disk -/
import Derived.Test.YtmflaonodghbcaaGreatDoorM32
import Derived.Deep.RegionHeld3
import Derived.Test.YtmflaonodghbcaaGreatDoorM03
import Derived.Test.YtmflaonodghbcaaGreatDoorM26
import Derived.Test.YtmflaonodghbcaaGreatDoorM31
import Derived.Test.YtmflaonodghbcaaGreatDoorM13
set_option maxRecDepth 100000
set_option maxHeartbeats 64000000
set_option linter.all false
namespace Go.Proofs.YtmflaonodghbcaaGreatDoor
open Go.ChangeShapes Go.WideShapes Go.ChangeAt Go.RowKit
theorem vL{α:Type}:∀(l:List (Int×α)) (a:Int) (n:Nat),aO (fun a b:Int=>decide (a<b)) l→(∀p∈l,a≤p.1∧p.1<a+n)→l.length≤n
 |[],_,_,_,_=>by simp
 |x::r,a,n,hs,hr=>by
  obtain⟨h1,h2⟩:=aau.1 hs;have hx:=hr x (by simp);obtain⟨m,rfl⟩:∃m,n=m+1:=⟨n-1,by omega⟩;have:=vL r (a+1) m h2 (fun p hp=>by
   have h3:=h1 p hp;simp only[aar]at h3;have h4:=hr p (by simp[hp]);omega)
  simp;omega
theorem bO.keys_in{F:Nat→Prop}{d sb mb:Nat}{l:List (Int×Value)}{M:dA}{w:World}(h:bO F w d sb mb l M):∀p∈l,0≤p.1∧p.1<0+(4096:Nat):=by
 intro p hp;have h1:=h.map.sorted.1.get Kw (k:=p.1) (v:=p.2) hp;obtain⟨row,h2,_⟩:=Dt (h.rows p.1) h1;have h3:=h.range _ (cZ h2);have h4:=h.len;simp only at h3;omega
theorem bO.small{F:Nat→Prop}{d sb mb:Nat}{l:List (Int×Value)}{M:dA}{w:World}(h:bO F w d sb mb l M):l.length≤4096:=
 vL l 0 4096 h.map.sorted.1 h.keys_in
theorem LU{F:Nat→Prop}{d sb mb:Nat}{l:List (Int×Value)}{M:dA}(i:Nat)(hi:oM M i)(b off cap:Nat)(bs:List UInt8)(hw:M.writes<4611686018427387904)(hl:bs.length=128)(w:World)(hc:∀j u,(bs.map bv)[j]? =some u→w.cell? ((⟨b,off,none⟩:Addr).add j)=some u)(hb:b<w.heap.size)(h:bO F w d sb mb l M):
  Calls Tryz.prog 97 #[.pointer (some ⟨d,0,none⟩),.int .i64 i,.slice (some ⟨b,off,none⟩) 128 cap] w fun e w'=>e= .returned (.int .i64 0)∧∃F' l',bO F' w' d sb mb l' ⟨M.safe,bX (fun a b:Int=>decide (a<b)) i bs M.dirty,M.writes+1⟩∧(∀x,F' x→F x∨w.heap.size≤x)∧Keeps F w w':=by
 have hd:=Dj (i:Int) w h;have e1:decide (0≤(i:Int)∧(i:Int)<((M.safe.length/128:Nat):Int))=true:=aal hi;rw[e1]at hd;clear e1;obtain⟨hc0,hc1,hc2⟩:=lC h;have hdw:=h.low _ h.own.1;have hM:=ab9 h;clear h;go_enter Tryz.func97,Tryz.ntmps97;go_wp2_with (go_at_call 172;refine hd.mono ?_;rintro e w' ⟨rfl,rfl⟩);have hlow:=hM.o.low;obtain⟨hap1,hap2,hap3⟩:=hM.o.apart;have hmbw:=hlow _ hM.o.own.2.2;have hhead:=hM.o.head;have hst:∀v w1,Below w.drew.heap.size w.drew w1→∃w2,(Instr.mapUpdate 76 (.map (some mb)) (.int .i64 (i:Int)) v).run Tryz.prog w1= .ok () w2∧MapAt aU w2 mb (bX aU.lt (i:Int) v l)∧w1.mapTurned w2 mb:=by
  intro v w1 hb1;have hm1:MapAt aU w1 mb l:=hM.o.map.kept (hb1.block mb hmbw);have hsm:=hM.o.small;have hrg:=hi.2;have hln:=hM.o.len;exact hm1.oZ aU Tryz.underlying76 (by unfold maxLen;omega) (i:Int) v (by simp[aU,Lit.wf,IntKind.min,IntKind.max,IntKind.signed,IntKind.bits];omega)
 have hcB:∀w1 w2:World,Below w.drew.heap.size w.drew w1→w1.mapTurned w2 mb→w2.heap[d]? =w.heap[d]? :=by
  intro w1 w2 h1 h2;have h3:=h1.size;have h4:w.drew.heap.size=w.heap.size:=rfl;exact(h2.grown.block d (by omega) (by simp;omega)).trans (h1.block d (by omega))
 go_region_held3 (fun w'=>w'.cell? ⟨d,1,none⟩=some (.map (some mb))) (first|exact hc1|(rw[hb1.cell (p:=⟨d,1,none⟩) hdw];exact hc1)|(exact(World.cell?_of_block (w:=w) (w':=w2) (a:=⟨d,1,none⟩) (hcB w1 w2 hb1 BM)).trans hc1)) ((first|(go_at_call 75;refine(xW b off 128 cap bs w.drew (by omega) hl (by omega) hc hb).mono ?_;rintro e w1 ⟨v,rfl,hv,hb1⟩)|(obtain⟨w2,U_,hM2,BM⟩:=hst v w1 hb1;rw[U_];go_simp)))
 have hd2:=hcB w1 w2 hb1 BM;rw[hhead]at hd2;have hc2':=(World.cell?_of_block (w:=w) (w':=w2) (a:=⟨d,2,none⟩) (hcB w1 w2 hb1 BM)).trans hc2;have hf2:w2.frozen? ⟨d,2,none⟩=false:=by simp[World.frozen?,hd2]
 have e2:IntKind.i64.wrap (M.writes+1)=M.writes+1:=aah _ (by have:=hM.o.writes;omega);clear hst hcB U_;go_wp2;go_ret;have hs1:=hb1.size;have hs0:w.drew.heap.size=w.heap.size:=rfl;rw[hs0]at hb1 hv hs1;have hs2:w2.heap.size=w1.heap.size:=fI BM;have hk2:=Keeps.turned BM;have hh:∀b,F b→b≠mb→w2.heap[b]? =w.heap[b]? :=fun b hb hm=>(hk2.block b (by have:=hlow b hb;omega) hm).trans (hb1.block b (hlow b hb));have hM:=hM.o;refine⟨rfl,fun x=>F x∨(w.heap.size≤x∧x<w2.heap.size),bX aU.lt (↑i) v l,?_,fun x hx=>hx.imp id (·.1),?_⟩
 ·constructor
  ·exact aK hd2
  ·rw[aL _ _ _ _ (aaP hap1),hh _ hM.own.2.1 hap3];exact hM.safe
  ·exact hM.len
  ·exact hM2.kept (aL _ _ _ _ (aaP hap2))
  ·exact hM.sorted.bX Kw _ _
  ·intro k;by_cases hk:k=(i:Int)
   ·subst hk;rw[pJ,pJ];refine hv.move fun b hb hbw=>⟨⟨.inr ⟨hb.1,by omega⟩,by omega,?_,by omega⟩,?_⟩
    ·have:=hlow _ hM.own.2.1;omega
    ·rw[aL _ _ _ _ (show b≠d by omega),hk2.block b hbw (by omega)]
   ·rw[ow _ hk,ow _ hk];refine(hM.rows k).imp fun x y h=>h.move fun b hb hbw=>⟨⟨.inl hb.1,hb.2⟩,?_⟩;rw[aL _ _ _ _ (show b≠d from hb.2.1),hh b hb.1 hb.2.2.2]
  ·intro q hq;rcases (pG _).1 hq with rfl|hq
   ·have:=hi.2;have:=hM.len;simp only;omega
   ·exact hM.range q (aax.1 hq).1
  ·exact⟨.inl hM.own.1,.inl hM.own.2.1,.inl hM.own.2.2⟩
  ·exact hM.apart
  ·rw[size_set];rintro x (hx|hx)
   ·have:=hlow x hx;omega
   ·exact hx.2
  ·have:=hM.writes;simp only;omega
 ·refine⟨hk2.os.trans hb1.os,hk2.tape.trans hb1.tape,hk2.output.trans hb1.output,by rw[size_set];omega,fun x hx hn=> ?_⟩;have h1:x≠d:=fun e=>hn (e▸hM.own.1);have h2:x≠mb:=fun e=>hn (e▸hM.own.2.2);rw[aL _ _ _ _ h1,hk2.block x (by omega) h2];exact hb1.block x hx
def mix(n:Nat)(f:Nat→List UInt8):List UInt8:=((List.range n).map f).flatten
theorem qW{f:Nat→List UInt8}:∀(l:List Nat),(∀i∈l,(f i).length=128)→(l.map f).flatten.length=l.length*128
 |[],_=>rfl
 |x::r,h=>by
  have:=qW r (fun i hi=>h i (by simp[hi]));have hx:=h x (by simp);simp only[List.map_cons,List.flatten_cons,List.length_append,List.length_cons];omega
theorem tX{n:Nat}{f:Nat→List UInt8}(h:∀i,i<n→(f i).length=128):(mix n f).length=n*128:=by
 have:=qW (f:=f) (List.range n) (fun i hi=>h i (by simpa using hi));simpa[mix]using this
theorem range_split{n i:Nat}(h:i<n):List.range n=List.range i++i::List.range' (i+1) (n-i-1):=by
 rw[List.range_eq_range',List.range_eq_range'];rw[show n=i+(1+(n-i-1))by omega,←List.range'_append_1,←List.range'_append_1];simp
theorem Br{n i:Nat}(f:Nat→List UInt8)(h:i<n):mix n f=((List.range i).map f).flatten++(f i++((List.range' (i+1) (n-i-1)).map f).flatten):=by
 unfold mix;rw[range_split h];simp
theorem OL{n i:Nat}{f:Nat→List UInt8}(h:i<n)(hf:∀i,i<n→(f i).length=128):rowsOf (mix n f) i=f i:=by
 have hl:=qW (f:=f) (List.range i) (fun j hj=>hf j (by have:=abg.1 hj;omega));rw[List.length_range]at hl;unfold rowsOf;rw[Br f h,←hl,List.drop_left,List.take_append_of_le_length (by rw[hf i h];omega),List.take_of_length_le (by rw[hf i h];omega)]
theorem ku{n:Nat}{f g:Nat→List UInt8}(h:∀i,i<n→f i=g i):mix n f=mix n g:=by
 unfold mix;rw[aaw (fun i hi=>h i (by simpa using hi))]
theorem qj:∀{n:Nat} {s:List UInt8},s.length=n*128→mix n (rowsOf s)=s
 |0,s,h=>by
  have:s=[]:=Pe (by omega);subst this;rfl
 |n+1,s,h=>by
  have h1:mix (n+1) (rowsOf s)=mix n (rowsOf (s.take (n*128)))++rowsOf s n:=by
   unfold mix;rw[ab3,aaz,List.flatten_append];simp only[List.map_cons,abl,List.flatten_cons,List.flatten_nil,aaE];rw[aaw];intro i hi;have:=abg.1 hi;unfold rowsOf;rw[List.drop_take,List.take_take,Nat.min_eq_left (by omega)]
  rw[h1,qj (by simp;omega)];unfold rowsOf;rw[List.take_of_length_le (l:=s.drop (n*128)) (by simp;omega),aaQ]
theorem fU{s:List UInt8}{i n:Nat}(h:s.length=n*128)(hi:i<n):(rowsOf s i).length=128:=by
 unfold rowsOf;simp;omega
theorem yu{n i:Nat}{f:Nat→List UInt8}{r:List UInt8}(h:i<n)(hf:∀i,i<n→(f i).length=128)(hr:r.length≤128):
  splice (mix n f) (i*128) r=mix n (fun j=>if j=i then r++(f i).drop r.length else f j):=by
 have hl:=qW (f:=f) (List.range i) (fun j hj=>hf j (by have:=abg.1 hj;omega));rw[List.length_range]at hl;rw[Br f h,Br _ h];have e1:(List.range i).map (fun j=>if j=i then r++(f i).drop r.length else f j)=(List.range i).map f:=by
  refine aaw fun j hj=> ?_;have:=abg.1 hj;rw[if_neg (by omega)]
 have e2:(List.range' (i+1) (n-i-1)).map (fun j=>if j=i then r++(f i).drop r.length else f j)=(List.range' (i+1) (n-i-1)).map f:=by
  refine aaw fun j hj=> ?_;have:=List.mem_range'_1.1 hj;rw[if_neg (by omega)]
 rw[e1,e2,if_pos rfl];unfold splice;rw[←hl,List.take_left,Nat.add_comm,←aaS,aaS,Nat.add_comm,←aaS,List.drop_left,List.drop_append_of_le_length (by rw[hf i h];omega)];simp
theorem WY{d sb N:Nat}(i:Nat)(hi:i*128+128≤N)(hN:N≤524288)(w:World)(hc0:w.cell? ⟨d,0,none⟩=some (.slice (some ⟨sb,0,none⟩) N N)):
  Calls Tryz.prog 28 #[.pointer (some ⟨d,0,none⟩),.int .i64 i] w fun e w'=>e= .returned (.slice (some ⟨sb,i*128,none⟩) 128 (N-i*128))∧w=w':=by
 have e1:IntKind.i64.wrap ((i:Int)*128)=(i:Int)*128:=aah _ (by omega);have e2:IntKind.i64.wrap ((i:Int)+1)=(i:Int)+1:=aah _ (by omega);have e3:IntKind.i64.wrap (((i:Int)+1)*128)=((i:Int)+1)*128:=aah _ (by omega);go_enter Tryz.func28,Tryz.ntmps28;go_wp2;go_ret;refine⟨?_,rfl⟩;show Ending.returned (Value.slice (some ⟨sb,i*128,none⟩) ((i+1)*128-i*128) (N-i*128))=_;rw[show(i+1)*128-i*128=128 by omega]
def Jw(M:dA):dA:=⟨mix (M.safe.length/128) (fun i=>fA M i),[],M.writes⟩
def Bt(F:Nat→Prop)(w:World)(d sb mb:Nat)(M:dA)(e:Ending)(w':World):Prop:=
 e= .returned (.tuple #[])∧bO F w' d sb mb [] M∧Keeps F w w'
def WZ(w:World)(sb mb r:Nat)(l:List (Int×Value))(M:dA)(wr:World):Prop:=
 ∃(left:Int→Bool) (cnt:Nat),eF aU wr mb r l left cnt∧Keeps (fun x=>x=sb) w wr∧
  wr.heap[sb]? =some (.cells ((mix (M.safe.length/128) (fun i=>if left i then rowsOf M.safe i else fA M i)).map bv).toArray 5 (0,0))
theorem bO.cleared{F:Nat→Prop}{d sb mb:Nat}{l:List (Int×Value)}{M:dA}{w w':World}{S':List UInt8}(h:bO F w d sb mb l M)(hs:w.heap.size≤w'.heap.size)
  (hd:w'.heap[d]? =w.heap[d]?)(hb:w'.heap[sb]? =some (.cells (S'.map bv).toArray 5 (0,0)))(hl:S'.length=M.safe.length)(hm:MapAt aU w' mb []):bO F w' d sb mb [] ⟨S',[],M.writes⟩:=by
 constructor
 ·rw[hd,h.head];simp only[hl]
 ·exact hb
 ·simp only[hl];exact h.len
 ·exact hm
 ·simp[aO]
 ·intro k;simp[aj,xP]
 ·simp
 ·exact h.own
 ·exact h.apart
 ·intro x hx;have:=h.low x hx;omega
 ·exact h.writes
theorem jU{F:Nat→Prop}{d sb mb:Nat}{l:List (Int×Value)}{M:dA}{w:World}(h:bO F w d sb mb l M){i:Nat}(hi:i<M.safe.length/128):(fA M i).length=128:=by
 unfold fA;cases h1:aj (i:Int) M.dirty with
 |none=>have:=h.len;exact fU (n:=M.safe.length/128) (by omega) hi
 |some r=>
  obtain⟨v,_,hv⟩:=Al (h.rows i) h1;exact hv.1
theorem EX{F:Nat→Prop}{d sb mb:Nat}{l:List (Int×Value)}{M:dA}(w:World)(h:bO F w d sb mb l M):
  Calls Tryz.prog 39 #[.pointer (some ⟨d,0,none⟩)] w (Bt F w d sb mb (Jw M)):=by
 obtain⟨hc0,hc1,hc2⟩:=lC h;have hmap:=h.map;have hM:=ab9 h;clear h;go_enter Tryz.func39,Tryz.ntmps39;go_wp2_with (at_range;refine lY aU rfl _ 76 32 rfl Tryz.underlying76 rfl hmap ?_;intro w0 hR0 hB0 hs0)
 go_frame
 go_loopw [2,3] (fun _ _ wr=>WZ w sb mb w.heap.size l M wr) (fun _ _ wr=>wr.rangeLeft mb w.heap.size)
 case atStart=>
  have h:=hM.o;have hl:=h.len;refine⟨_,_,hR0,(Keeps.below hB0).mono (fun x hx hf=>by omega),?_⟩;rw[hB0.block _ (h.low _ h.own.2.1),h.safe,ku (g:=rowsOf M.safe),qj (by omega)];intro i hi;by_cases hg:(aj (i:Int) l).isSome=true
  ·rw[if_pos hg]
  ·rw[if_neg hg];have h1:aj (i:Int) l=none:=by simpa using hg
   have h2:=h.rows (i:Int);rw[h1]at h2;cases h3:aj (i:Int) M.dirty with
   |none=>simp[fA,h3]
   |some y=>rw[h3]at h2;exact h2.elim
 case round=>
  obtain⟨left,cnt,hR,hK,hsb⟩:=hrel;have hap:=hM.o.apart;have hlow:=hM.o.low;have hown:=hM.o.own;have hdr:wr.heap[d]? =w.heap[d]? :=hK.block d (hlow _ hown.1) hap.1;rw[hM.o.head]at hdr;have HS:=ab9 hsb;clear hsb;go_wp2_with (first|(at_next;refine nP aU rfl _ rfl rfl hR ?_ ?_))
  ·intro hdone;have hdc:wr.cell? ⟨d,1,none⟩=some (.map (some mb)):=by simp[World.cell?,hdr]
   have HD:=ab9 hdone;clear hdone;have HDR:=ab9 hdr;clear hdr;go_wp2_with (with_reducible refine yR aU rfl _ 76 32 rfl Tryz.underlying76 rfl hR.map ?_;intro w2 hM2 BM)
   go_end0
   have h:=hM.o;have hk2:=Keeps.turned BM;have hs2:=fI BM;have hs1:=hK.size;refine⟨rfl,?_,?_⟩
   ·refine h.cleared (by omega) ?_ ?_ ?_ hM2
    ·rw[hk2.block d (by have:=hlow _ hown.1;omega) hap.2.1,HDR.o,h.head]
    ·rw[hk2.block sb (by have:=hlow _ hown.2.1;omega) hap.2.2,HS.o,ku (g:=fun i=>fA M i) (fun i _=>by simp[HD.o])]
    ·rw[tX (fun i hi=>jU h hi)];have:=h.len;omega
   ·refine⟨hk2.os.trans hK.os,hk2.tape.trans hK.tape,hk2.output.trans hK.output,by omega,fun x hx hn=> ?_⟩;rw[hk2.block x (by omega) (fun e=>hn (e▸hown.2.2))];exact hK.block x hx (fun e=>hn (e▸hown.2.1))
  ·intro k v w1 cnt1 hok hleft hg kR hlt hK1 hs1 hen;have h:=hM.o;obtain⟨row,h1,hl,b,cap,cur,rfl,hF,hcur,htk,hc1',hc2',hcs⟩:=Dt (h.rows k) hg;have hrg:=h.range _ (cZ h1);have hlen:=h.len;simp only at hrg;obtain⟨i,rfl⟩:∃i:Nat,k=i:=⟨k.toNat,by omega⟩;have hsz:=hK.size;have hb0:=hlow _ hF.1;have hd0:=hlow _ hown.1;have hsb0:=hlow _ hown.2.1;have hdr1:w1.heap[d]? =some _:=(hK1.block d (by omega) (by omega)).trans hdr;have hcell1:w1.cell? ⟨d,0,none⟩=some (.slice (some ⟨sb,0,none⟩) M.safe.length M.safe.length):=by simp[World.cell?,hdr1]
   have W9:=(hK1.block sb (by omega) (by omega)).trans HS.o;have Ih:=((hK1.block b (by omega) (by omega)).trans (hK.block b hb0 hF.2.2.1)).trans hcur;have hlr:∀i,i<M.safe.length/128→((fun i:Nat=>if left i then rowsOf M.safe i else fA M i) i).length=128:=by
    intro i hi;simp only;split
    ·exact fU (n:=M.safe.length/128) (by omega) hi
    ·exact jU h hi
   have hml:=tX hlr;have hat:=WY i (by omega) (by omega) w1 hcell1;have hrow:∀j u,(row.map bv)[j]? =some u→w1.cell? ((⟨b,0,none⟩:Addr).add j)=some u:=by
    intro j u hu;rw[add_plain,←htk]at*;simp only[World.cell?,Ih,Nat.zero_add];rw[aat]at hu;split at hu
    ·simpa using hu
    ·simp at hu
   have hn1:row.length=Nat.min 128 128:=by rw[hl];rfl
   have hn2:i*128+row.length≤((mix (M.safe.length/128) (fun i=>if left i then rowsOf M.safe i else fA M i)).map bv).length:=by rw[List.length_map,hml];omega
   have zV:=ab9 hn1;have MU:=ab9 hn2;clear hn1 hn2;have HX:=ab9 W9;have HH:=ab9 hdr1;have HT:=ab9 htk;have HC:=ab9 Ih;have HG:=ab9 hg;have H1:=ab9 h1;have HL:=ab9 hl;have HL2:=ab9 hleft;clear W9 hdr1 htk Ih hg h1 hl hcur hdr hleft hcs h hcell1;go_wp2_with (first|(go_at_call 28;refine hat.mono ?_;rintro e w' ⟨rfl,rfl⟩)|(with_reducible refine wY rfl _ _ 32 32 rfl 5 Tryz.underlying32 Tryz.UD (some ⟨b,0,none⟩) sb (i*128) 128 (M.safe.length-i*128) 128 cap rfl rfl _ 5 HX.o row zV.o (fun _=>⟨_,rfl,hrow⟩) MU.o ?_;intro w2 HS2 hK2 hs2;go_frame));go_roundw
   case rel=>
    refine⟨_,cnt1,kR.kept (hK2.block mb kR.lt.1 (aaP hap.2.2)) (hK2.block w.heap.size kR.lt.2.1 (by omega)),?_,?_⟩
    ·exact⟨hK2.os.trans (hK1.os.trans hK.os),hK2.tape.trans (hK1.tape.trans hK.tape),hK2.output.trans (hK1.output.trans hK.output),by omega,fun x hx hn=>
      (hK2.block x (by omega) hn).trans ((hK1.block x (by omega) (by omega)).trans (hK.block x hx hn))⟩
    ·rw[HS2.o,xQ,yu (by omega) hlr (by rw[HL.o];omega),ku];intro j hj;by_cases hji:j=i
     ·subst hji;simp only[if_pos,decide_true,Bool.not_true,Bool.and_false];rw[aaC (by rw[HL.o];exact ab8 (hlr j hj))];simp[fA,H1.o]
     ·simp only[if_neg hji];have:decide ((j:Int)=(i:Int))=false:=by simp;omega
      rw[this];simp
   case measure=>
    have hR2:eF aU w2 mb w.heap.size l _ cnt1:=kR.kept (hK2.block mb kR.lt.1 (aaP hap.2.2)) (hK2.block w.heap.size kR.lt.2.1 (by omega));rw[hR2.measure,hR.measure];exact hlt
theorem bO.below{F:Nat→Prop}{d sb mb B:Nat}{l:List (Int×Value)}{M:dA}{w w':World}(h:bO F w d sb mb l M)(hb:Below B w w')(hB:w.heap.size≤B):bO F w' d sb mb l M:=by
 have hk:∀x,F x→w'.heap[x]? =w.heap[x]? :=fun x hx=>hb.block x (by have:=h.low x hx;omega);exact⟨(hk _ h.own.1).trans h.head,(hk _ h.own.2.1).trans h.safe,h.len,h.map.kept (hk _ h.own.2.2),h.sorted,fun k=>(h.rows k).imp fun x y hr=>hr.move fun b hb' _=>⟨hb',hk _ hb'.1⟩,h.range,h.own,h.apart,fun x hx=>by have:=h.low x hx;have:=hb.size;omega,h.writes⟩
def zY(M:dA):List UInt8:=mix (M.safe.length/128) (fun i=>fA M i)
theorem Ii{l:List (Int×Value)}{m:List (Int×List UInt8)}{R:Value→List UInt8→Prop}(hl:aO (fun a b:Int=>decide (a<b)) l)(hm:aO (fun a b:Int=>decide (a<b)) m)(h:∀k,xP R (aj k l) (aj k m)):l.map (·.1)=m.map (·.1):=by
 have h1:l.map (fun p=>(p.1,()))=m.map (fun p=>(p.1,())):=by
  refine BI Kw (by unfold aO at*;rw[List.pairwise_map];exact hl) (by unfold aO at*;rw[List.pairwise_map];exact hm) fun k=> ?_;rw[uR (fun _=>()),uR (fun _=>())];have:=h k;cases h2:aj k l<;>cases h3:aj k m<;>rw[h2,h3]at this<;>simp_all [xP]
 have h2:=aaG (List.map (·.1)) h1;simpa[List.map_map,abG]using h2
theorem Jy(l:List (Int×Value)):intKeys (wP aU l)=l.map (·.1):=by
 unfold intKeys wP;simp only[List.map_map];rfl
theorem Jz{α:Type}{l:List (Int×α)}(hl:aO (fun a b:Int=>decide (a<b)) l){ss:List Int}(hp:ss.Perm (l.map (·.1))):ss.mergeSort (fun x y=>decide (x≤y))=l.map (·.1):=by
 have h1:(ss.mergeSort (fun x y=>decide (x≤y))).Pairwise (fun a b=>decide (a≤b)=true):=List.pairwise_mergeSort (fun a b c h1 h2=>by simp at*;omega) (fun a b=>by simp;omega) ss;have h2:(l.map (·.1)).Pairwise (fun a b=>decide (a≤b)=true):=by
  rw[List.pairwise_map];exact hl.imp fun{a b} h=>by simp at*;omega
 exact((List.mergeSort_perm ss _).trans hp).eq_of_pairwise (fun a b _ _ h1 h2=>by simp at*;omega) h1 h2
def iP(M:dA):List Int:=M.dirty.map (·.1)
def W_(w:World)(zs:List Int)(e:Ending)(w':World):Prop:=
 ∃a cap,e= .returned (.slice a zs.length cap)∧ah (fun x=>w.heap.size≤x∧x<w'.heap.size) w' a zs.length (zs.map (Value.int .i64))∧Below w.heap.size w w'
theorem Tn{F:Nat→Prop}{d sb mb:Nat}{l:List (Int×Value)}{M:dA}{w:World}(h:bO F w d sb mb l M):(iP M).length≤4096:=by
 have h1:=Ii h.map.sorted.1 h.sorted h.rows;have h2:=h.small;have h3:=aaG List.length h1;simp only[List.length_map]at h3;simp only[iP,List.length_map];omega
theorem OM{F:Nat→Prop}{d sb mb:Nat}{l:List (Int×Value)}{M:dA}(w:World)(h:bO F w d sb mb l M):
  Calls Tryz.prog 27 #[.pointer (some ⟨d,0,none⟩)] w (W_ w (iP M)):=by
 obtain⟨hc0,hc1,hc2⟩:=lC h;have hsm:=h.small;have hks:=Ii h.map.sorted.1 h.sorted h.rows;have hso:=h.map.sorted.1;have hk:=Tryz.keysOfD (some mb) w;have hs:=Tryz.Tm mb l.length (wP aU l) mV w h.map (by rw[jL];unfold maxLen;omega) (by rw[jL];omega);have HK:=ab9 hks;have Zn:=ab9 hso;clear h hks hso;go_enter Tryz.func27,Tryz.ntmps27;go_wp2_with (first|(go_at_call 84;refine hk.mono ?_;rintro e w' ⟨rfl,rfl⟩)|(go_at_call 83;refine hs.mono ?_;rintro e w' ⟨v,ss,rfl,hp,hown,hnil,hB⟩));go_ret;rw[Jy]at hp;rw[Jz Zn.o hp,HK.o]at hown;have hlen:ss.length=(iP M).length:=by
  have:=hp.length_eq;rw[HK.o]at this;simpa[iP]using this
 have hB2:Below w.heap.size w w':=(acf.alloc ace _).trans (hB.mono (by simp));have hs1:=hB.size;rw[Pd]at hs1;obtain⟨h1,h2⟩:=hown;simp only[List.length_map]at h1;rcases h2 with⟨rfl,h0⟩|⟨g,cap,cur,rfl,hg,hcur,hc1,hc2,hcs,htk⟩
 ·have h00:(iP M).length=0:=by omega
  have:iP M=[]:=Pe h00;rw[this];exact⟨none,0,rfl,ah.nil _ _ _,hB2⟩
 ·have hgw:=(uh.1 hcur).1;rw[Pd]at hg;refine⟨some ⟨g,0,none⟩,cap,by rw[←hlen];rfl,⟨by simp,by omega,fun h0=>⟨g,0,rfl,⟨by omega,hgw⟩,hgw,fun i hi=> ?_⟩⟩,hB2⟩;simp only[World.cell?,hcur,Nat.zero_add];rw[show(iP M).map (Value.int .i64)=(M.dirty.map (·.1)).map encZ from rfl];rw[←htk,aat,if_pos (show i<ss.length*1 by rw[hlen];omega)];simp
def EY(cut:Int):Nat:=(min (max cut 0) 128).toNat
def iY(M:dA)(keep:List Bool)(jd cut:Int)(i:Nat):List UInt8:=
 if (iP M).contains (i:Int)then
  if (((iP M).idxOf (i:Int):Nat):Int)=jd then(fA M i).take (EY cut)++(rowsOf M.safe i).drop (EY cut)
  else if keep.getD ((iP M).idxOf (i:Int)) false then fA M i else rowsOf M.safe i
 else rowsOf M.safe i
def OO(M:dA)(keep:List Bool)(jd cut:Int):dA:=⟨mix (M.safe.length/128) (iY M keep jd cut),[],M.writes⟩
def jG(M:dA)(keep:List Bool)(jd cut:Int)(k i:Nat):List UInt8:=if ((iP M).take k).contains (i:Int)then iY M keep jd cut i else rowsOf M.safe i
def Xa(w:World)(sb:Nat)(M:dA)(keep:List Bool)(jd cut:Int)(k:Nat)(wr:World):Prop:=
 Keeps (fun x=>x=sb) w wr∧wr.heap.size=w.heap.size∧
  wr.heap[sb]? =some (.cells ((mix (M.safe.length/128) (jG M keep jd cut k)).map bv).toArray 5 (0,0))
theorem qX{F:Nat→Prop}{d sb mb:Nat}{l:List (Int×Value)}{M:dA}{w:World}(h:bO F w d sb mb l M)(keep:List Bool)(jd cut:Int){i:Nat}(hi:i<M.safe.length/128):(iY M keep jd cut i).length=128:=by
 have h1:=jU h hi;have hl:=h.len;have h2:=fU (n:=M.safe.length/128) (s:=M.safe) (by omega) hi;unfold iY;split
 ·split
  ·simp[h1,h2,EY];omega
  ·split<;>assumption
 ·exact h2
theorem Cj{F:Nat→Prop}{d sb mb:Nat}{l:List (Int×Value)}{M:dA}{w:World}(h:bO F w d sb mb l M):(iP M).Nodup:=by
 have:=h.sorted;unfold aO at this;unfold iP List.Nodup;rw[List.pairwise_map];exact this.imp fun{a b} h=>by simp at*;omega
theorem Xb{ks:List Int}(hn:ks.Nodup){k:Nat}{z:Int}(hz:ks[k]? =some z):z∉ks.take k:=by
 intro hm;have h1:(ks.take k++ks.drop k).Nodup:=by rw[aaQ];exact hn
 rw[List.nodup_append]at h1;have h2:z∈ks.drop k:=List.mem_iff_getElem?.2 ⟨0,by rw[aby];simpa using hz⟩;exact h1.2.2 z hm z h2 rfl
theorem idx_at{ks:List Int}(hn:ks.Nodup){k:Nat}{z:Int}(hz:ks[k]? =some z):ks.idxOf z=k:=by
 obtain⟨h2,e2⟩:=aaj.1 hz;rw[←e2];exact hn.idxOf_getElem k h2
theorem tY{F:Nat→Prop}{d sb mb:Nat}{l:List (Int×Value)}{M:dA}{w:World}(h:bO F w d sb mb l M){keep:List Bool}{jd cut:Int}{k i:Nat}(hki:(iP M)[k]? =some (i:Int))(hi:i<M.safe.length/128)
  {r:List UInt8}(hr:r.length≤128)(hrow:r++(rowsOf M.safe i).drop r.length=iY M keep jd cut i):
  splice (mix (M.safe.length/128) (jG M keep jd cut k)) (i*128) r=mix (M.safe.length/128) (jG M keep jd cut (k+1)):=by
 have hn:=Cj h;have hlen:=h.len;rw[yu hi (fun j hj=>by unfold jG;split;exact qX h keep jd cut hj;exact fU (n:=M.safe.length/128) (by omega) hj) hr];refine ku fun j hj=> ?_;obtain⟨h1,e1⟩:=aaj.1 hki;have ht:(iP M).take (k+1)=(iP M).take k++[(i:Int)]:=by rw[aai h1,e1]
 by_cases hji:j=i
 ·subst hji;rw[if_pos rfl];have hnot:=Xb hn hki;unfold jG;rw[if_neg (by simpa using hnot),ht,if_pos (by simp),hrow]
 ·rw[if_neg hji];unfold jG;rw[ht];congr 1;have:((j:Int)=(i:Int))↔False:=by constructor;intro h;exact hji (by omega);exact False.elim
  simp[this]
theorem OP{F S:Nat→Prop}{d sb mb:Nat}{l:List (Int×Value)}{M:dA}(keep:List Bool)(ka:Option Addr)(kcap:Nat)(jd cut:Int)(w:World)(h:bO F w d sb mb l M)(hkp:ah S w ka keep.length (keep.map Value.bool))(hS:∀b,S b→¬F b):
  Calls Tryz.prog 7 #[.pointer (some ⟨d,0,none⟩),.slice ka keep.length kcap,.int .i64 jd,.int .i64 cut] w (Bt F w d sb mb (OO M keep jd cut)):=by
 have hdy:=OM w h;have hdl:=Tn h;have hM:=ab9 h;have GL:=ab9 hkp;have HSF:=ab9 hS;obtain⟨hc0,hc1,hc2⟩:=lC h;have hd0:=h.low _ h.own.1;have hsb0:=h.low _ h.own.2.1;have hmb0:=h.low _ h.own.2.2;clear h hkp hS;go_enter Tryz.func7,Tryz.ntmps7;go_wp2_with fail;refine hdy.mono ?_;rintro e w1 ⟨a,cap,rfl,hrow,hB⟩;have HR:=ab9 hrow;clear hrow hdy;have hs1:=hB.size;go_wp2
 go_loopw [14] (fun i wr=>∃k:Nat,k≤(iP M).length∧i= .int .i64 k∧Xa w1 sb M keep jd cut k wr) (fun i wr=>(iP M).length-(intOf i).toNat)
 case atStart=>
  refine⟨0,by omega,rfl,Keeps.refl _ _,rfl,?_⟩;have h:=hM.o;have hl:=h.len;rw[hB.block _ hsb0,h.safe,ku (g:=rowsOf M.safe) (fun i _=>by simp[jG]),qj (by omega)]
 case round=>
  obtain⟨k,hk,rfl,hK,hsz,hsb⟩:=hrel;have hap:=hM.o.apart;have hlow:=hM.o.low;have hown:=hM.o.own;have hdr:wr.heap[d]? =_:=((hK.block d (by omega) hap.1).trans (hB.block d hd0)).trans hM.o.head;have hmap:MapAt aU wr mb l:=hM.o.map.kept ((hK.block mb (by omega) (aaP hap.2.2)).trans (hB.block mb hmb0));have hdc1:wr.cell? ⟨d,1,none⟩=some (.map (some mb)):=by simp[World.cell?,hdr]
  have hdc0:wr.cell? ⟨d,0,none⟩=some (.slice (some ⟨sb,0,none⟩) M.safe.length M.safe.length):=by simp[World.cell?,hdr]
  have HS:=ab9 hsb;have HDR:=ab9 hdr;clear hsb hdr hc0 hc1 hc2;by_cases hlt:k<(iP M).length
  ·have hkey:(iP M)[k]? =some ((iP M)[k]):=List.getElem?_eq_getElem hlt;have hmem:(iP M)[k]∈iP M:=List.getElem_mem hlt;generalize (iP M)[k]=z at hkey hmem;obtain⟨p,hp,hpz⟩:=List.mem_map.1 hmem;have hget:aj z M.dirty=some p.2:=hM.o.sorted.get Kw (by rw[←hpz];exact hp);obtain⟨v,hv1,hl,b,cap2,cur2,rfl,hF,hcur,htk,hc1',hc2',hcs⟩:=Al (hM.o.rows z) hget;have hrg:=hM.o.range _ (cZ hget);have hlen:=hM.o.len;simp only at hrg;obtain⟨i,rfl⟩:∃i:Nat,z=i:=⟨z.toNat,by omega⟩;have hi:i<M.safe.length/128:=by omega
   have hb0:=hlow _ hF.1;have Ih:=((hK.block b (by omega) hF.2.2.1).trans (hB.block b hb0)).trans hcur;have hcell:∀j u,(p.2.map bv)[j]? =some u→wr.cell? ((⟨b,0,none⟩:Addr).add j)=some u:=by
    intro j u hu;rw[add_plain,←htk]at*;simp only[World.cell?,Ih,Nat.zero_add];rw[aat]at hu;split at hu
    ·simpa using hu
    ·simp at hu
   have hro:fA M i=p.2:=by simp[fA,hget]
   have hidx:=idx_at (Cj hM.o) hkey;have hcon:(iP M).contains (i:Int)=true:=by simpa using hmem
   obtain⟨g,off,rfl,hg1,hg2,hgc⟩:=HR.o.at_ (by omega);have hkc:wr.cell? ⟨g,off+k,none⟩=some (.int .i64 (i:Int)):=by
    rw[World.cell?_of_block (w:=w1) (w':=wr) (hK.block g hg2 (by omega)),hgc k hlt,List.getElem?_map,hkey];rfl
   have HI1:i*128+128≤M.safe.length:=by omega
   have HI2:M.safe.length≤524288:=by omega
   have hok:(Lit.int .i64 (i:Int)).wf=true:=by simp[Lit.wf,IntKind.min,IntKind.max,IntKind.signed,IntKind.bits];omega
   have H1:=ab9 hv1;have H2:=ab9 hkey;have H3:=ab9 hl;have H4:=ab9 hcell;have H5:=ab9 hro;have H6:=ab9 hidx;have H7:=ab9 hcon;clear hv1 hkey hl hcell hro hidx hcon hcur htk hcs Ih hgc hget hpz hp hmem;by_cases ht:(k:Int)=jd
   ·have e1:((k:Int)==jd)=true:=by simpa using ht
    clear ht;go_wp2_with (first|(at_lookup;refine bJ aU rfl _ _ 76 32 rfl Tryz.underlying76 (Tryz.Bq _) rfl hmap (i:Int) rfl hok ?_;rw[H1.o]));have HE:=ab9 e1;obtain⟨c,hc⟩:∃c,c=EY cut:=⟨_,rfl⟩;have hmm:min (max cut 0) 128=(c:Int):=by subst hc;unfold EY;omega
    have hc128:c≤128:=by omega
    have hcap:c≤cap2:=by omega
    have hmm0:(0:Int)≤(c:Int):=by omega
    have hmm1:(c:Int)≤(cap2:Int):=by omega
    have hn1:(p.2.take c).length=Nat.min c 128:=by rw[List.length_take,H3.o]
    have hlt2:(p.2.take c).length≤128:=by rw[hn1];exact Nat.min_le_right _ _
    have hml:(mix (M.safe.length/128) (jG M keep jd cut k)).length=M.safe.length:=by
     rw[tX (fun j hj=>by unfold jG;split;exact qX hM.o keep jd cut hj;exact fU (n:=M.safe.length/128) (by omega) hj)];omega
    have hn2:i*128+(p.2.take c).length≤((mix (M.safe.length/128) (jG M keep jd cut k)).map bv).length:=by rw[List.length_map,hml];omega
    have D9:∀j u,((p.2.take c).map bv)[j]? =some u→wr.cell? ((⟨b,0,none⟩:Addr).add j)=some u:=by
     intro j u hu;rw[aaO,aat]at hu;split at hu
     ·exact H4.o j u hu
     ·cases hu
    have hrw2:p.2.take c++(rowsOf M.safe i).drop (p.2.take c).length=iY M keep jd cut i:=by
     unfold iY;rw[if_pos H7.o,H6.o,if_pos (by simpa using e1),H5.o,←hc];congr 2;rw[hn1];show min _ _=_;omega
    have hstep:=tY hM.o H2.o hi hlt2 hrw2;have zV:=ab9 hn1;have MU:=ab9 hn2;have Ji:=ab9 D9;have YP:=ab9 hstep;have HC:=ab9 hc;clear hn1 hn2 D9 hrw2 hstep hml hc
    go_region_held3 (fun w'=>True) (trivial) ((first|(go_at_call 28;refine(WY (sb:=sb) (N:=M.safe.length) i HI1 HI2 _ (by exact hdc0)).mono ?_;rintro e w' ⟨rfl,rfl⟩)|(refine Kh (by rfl) _ _ 32 32 (by rfl) 5 Tryz.underlying32 Tryz.UD (some ⟨b,0,none⟩) sb (i*128) 128 (M.safe.length-i*128) c cap2 (by rfl) (by rfl) _ 5 HS.o (p.2.take c) zV.o (fun _=>⟨_,rfl,Ji.o⟩) MU.o ?_;intro w2 HS2 hK2 hs2)))
    all_goals
     have HX:=ab9 hK2;clear hK2;go_wp2;go_roundw
     case rel=>
      refine⟨k+1,by omega,by go_num,?_,by rw[hs2];exact hsz,?_⟩
      ·exact⟨HX.o.os.trans hK.os,HX.o.tape.trans hK.tape,HX.o.output.trans hK.output,by rw[hs2];exact hK.size,fun x hx hn=>(HX.o.block x (by show x<wr.heap.size;omega) hn).trans (hK.block x hx hn)⟩
      ·rw[HS2.o,xQ,YP.o]
     case measure=>simp[intOf];omega
   ·have e1:((k:Int)==jd)=false:=by simpa using ht
    have hb:iY M keep jd cut i=if keep.getD k false then p.2 else rowsOf M.safe i:=by
     unfold iY;rw[if_pos H7.o,H6.o,if_neg ht,H5.o]
    clear ht;have hlr:=fU (n:=M.safe.length/128) (s:=M.safe) (by omega) hi;have hml:(mix (M.safe.length/128) (jG M keep jd cut k)).length=M.safe.length:=by
     rw[tX (fun j hj=>by unfold jG;split;exact qX hM.o keep jd cut hj;exact fU (n:=M.safe.length/128) (by omega) hj)];omega
    by_cases hkl:k<keep.length
    ·obtain⟨b',off',rfl,hS',hlt',hcells⟩:=GL.o.at_ (by omega);have hne:b'≠sb:=fun e=>HSF.o _ hS' (e▸hown.2.1);have hkc2:wr.cell? ⟨b',off'+k,none⟩=some (.bool (keep.getD k false)):=by
      rw[World.cell?_of_block (w:=w) (w':=wr) ((hK.block b' (by omega) hne).trans (hB.block b' hlt')),hcells k hkl,List.getElem?_map,List.getElem?_eq_getElem hkl];simp[List.getD,List.getElem?_eq_getElem hkl]
     have hdk:decide (k<keep.length)=true:=by simpa using hkl
     cases hkv:keep.getD k false with
     |true=>
      rw[hkv]at hkc2 hb;have hstep:=tY hM.o H2.o hi (r:=p.2) (by rw[H3.o];omega) (by rw[hb,if_pos rfl,H3.o,aaC (by omega),aaE]);have hn1:p.2.length=Nat.min 128 128:=by rw[H3.o];rfl
      have hn2:i*128+p.2.length≤((mix (M.safe.length/128) (jG M keep jd cut k)).map bv).length:=by rw[List.length_map,hml,H3.o];omega
      have YP:=ab9 hstep;have zV:=ab9 hn1;have MU:=ab9 hn2;clear hstep hn1 hn2 hb hkv hml hlr hcells;go_wp2_with (first|(at_lookup;refine bJ aU rfl _ _ 76 32 rfl Tryz.underlying76 (Tryz.Bq _) rfl hmap (i:Int) rfl hok ?_;rw[H1.o])|(go_at_call 28;refine(WY (sb:=sb) (N:=M.safe.length) i HI1 HI2 _ (by exact hdc0)).mono ?_;rintro e w' ⟨rfl,rfl⟩)|(with_reducible refine wY rfl _ _ 32 32 rfl 5 Tryz.underlying32 Tryz.UD (some ⟨b,0,none⟩) sb (i*128) 128 (M.safe.length-i*128) 128 cap2 rfl rfl _ 5 HS.o p.2 zV.o (fun _=>⟨_,rfl,H4.o⟩) MU.o ?_;intro w2 HS2 hK2 hs2;have HX:=ab9 hK2;clear hK2;go_frame));go_roundw
      case rel=>
       refine⟨k+1,by omega,by go_num,?_,by rw[hs2];exact hsz,?_⟩
       ·exact⟨HX.o.os.trans hK.os,HX.o.tape.trans hK.tape,HX.o.output.trans hK.output,by rw[hs2];exact hK.size,fun x hx hn=>(HX.o.block x (by omega) hn).trans (hK.block x hx hn)⟩
       ·rw[HS2.o,xQ,YP.o]
      case measure=>simp[intOf];omega
     |false=>
      rw[hkv]at hkc2 hb;have hstep:=tY hM.o H2.o hi (r:=[]) (by simp) (by rw[hb];simp);have YP:=ab9 hstep;clear hstep hb hkv hml hlr hcells;go_wp2_with (first|(at_lookup;refine bJ aU rfl _ _ 76 32 rfl Tryz.underlying76 (Tryz.Bq _) rfl hmap (i:Int) rfl hok ?_;rw[H1.o]));go_roundw
      case rel=>
       refine⟨k+1,by omega,by go_num,hK,hsz,?_⟩;rw[HS.o,←YP.o];simp[splice]
      case measure=>simp[intOf];omega
    ·have hdk:decide (k<keep.length)=false:=by simpa using hkl
     have hgd:keep.getD k false=false:=by simp[List.getD,List.getElem?_eq_none (show keep.length≤k by omega)]
     rw[hgd]at hb;have hstep:=tY hM.o H2.o hi (r:=[]) (by simp) (by rw[hb];simp);have YP:=ab9 hstep;clear hstep hb hml hlr hgd;go_wp2_with (first|(at_lookup;refine bJ aU rfl _ _ 76 32 rfl Tryz.underlying76 (Tryz.Bq _) rfl hmap (i:Int) rfl hok ?_;rw[H1.o]));go_roundw
     case rel=>
      refine⟨k+1,by omega,by go_num,hK,hsz,?_⟩;rw[HS.o,←YP.o];simp[splice]
     case measure=>simp[intOf];omega
  ·obtain rfl:k=(iP M).length:=by omega
   go_wp2_with (with_reducible refine yR aU rfl _ 76 32 rfl Tryz.underlying76 rfl hmap ?_;intro w2 hM2 BM)
   go_end0
   have h:=hM.o;have hk2:=Keeps.turned BM;have hs2:=fI BM;refine⟨rfl,?_,?_⟩
   ·refine h.cleared (by omega) ?_ ?_ ?_ hM2
    ·rw[hk2.block d (by omega) hap.2.1,HDR.o,h.head]
    ·rw[hk2.block sb (by omega) hap.2.2,HS.o,ku (g:=iY M keep jd cut) (fun i _=> ?_)];unfold jG;rw[List.take_of_length_le ace];split
     ·rfl
     ·rename_i hh;unfold iY;rw[if_neg hh]
    ·rw[tX (fun i hi=>qX h keep jd cut hi)];have:=h.len;omega
   ·refine⟨hk2.os.trans (hK.os.trans hB.os),hk2.tape.trans (hK.tape.trans hB.tape),hk2.output.trans (hK.output.trans hB.output),by omega,fun x hx hn=> ?_⟩;rw[hk2.block x (by omega) (fun e=>hn (e▸hown.2.2)),hK.block x (by omega) (fun e=>hn (e▸hown.2.1))];exact hB.block x hx
instance(M:dA)(i:Int):Decidable (oM M i):=by unfold oM;exact inferInstance
def yw(M:dA)(i:Int)(bs:List UInt8):dA:=if oM M i∧bs.length=128 then⟨M.safe,bX (fun a b:Int=>decide (a<b)) i bs M.dirty,M.writes+1⟩else M
def JA(M:dA)(i:Int)(bs:List UInt8):Int:=if oM M i∧bs.length=128 then 0 else 1
def EZ(M:dA)(i:Int):List UInt8:=if oM M i then fA M i else[]
def JB(M:dA)(i:Int):Int:=if oM M i then 0 else 1
def Turned(F:Nat→Prop)(w:World)(d sb mb:Nat)(M:dA)(v:Value)(e:Ending)(w':World):Prop:=
 e= .returned v∧∃F' l',bO F' w' d sb mb l' M∧(∀x,F' x→F x∨w.heap.size≤x)∧Keeps F w w'
def Tp(w:World)(bs:List UInt8)(k:Int)(e:Ending)(w':World):Prop:=
 ∃a c,e= .returned (.tuple #[.slice a bs.length c,.int .i64 k])∧ah (fun x=>w.heap.size≤x∧x<w'.heap.size) w' a bs.length (bs.map bv)∧Below w.heap.size w w'∧bs.length≤c
theorem OQ{F S:Nat→Prop}{d sb mb:Nat}{l:List (Int×Value)}{M:dA}(i:Int)(a:Option Addr)(n cap:Nat)(bs:List UInt8)(hw:M.writes<4611686018427387904)(w:World)(hr:ah S w a n (bs.map bv))(h:bO F w d sb mb l M):
  Calls Tryz.prog 97 #[.pointer (some ⟨d,0,none⟩),.int .i64 i,.slice a n cap] w (Turned F w d sb mb (yw M i bs) (.int .i64 (JA M i bs))):=by
 have hl:bs.length=n:=by have:=hr.length;simpa using this
 by_cases hc:oM M i∧bs.length=128
 ·have e1:yw M i bs=⟨M.safe,bX (fun a b:Int=>decide (a<b)) i bs M.dirty,M.writes+1⟩:=if_pos hc;have e2:JA M i bs=0:=if_pos hc;rw[e1,e2];obtain⟨j,rfl⟩:∃j:Nat,i=j:=⟨i.toNat,by have:=hc.1.1;omega⟩;have hn:n=128:=by omega
  subst hn;obtain⟨b,off,rfl,_,hb,_⟩:=hr.at_ (by omega);exact LU j hc.1 b off cap bs hw hc.2 w hr.cells hb h
 ·have e1:yw M i bs=M:=if_neg hc;have e2:JA M i bs=1:=if_neg hc;rw[e1,e2];refine(LQ i a n cap (by rw[←hl];exact hc) w h).mono ?_;rintro e w' ⟨rfl,rfl⟩;exact⟨rfl,F,l,h,fun x hx=> .inl hx,Keeps.refl _ _⟩
theorem Tq{F:Nat→Prop}{d sb mb:Nat}{l:List (Int×Value)}{M:dA}(i:Int)(w:World)(h:bO F w d sb mb l M):
  Calls Tryz.prog 156 #[.pointer (some ⟨d,0,none⟩),.int .i64 i] w (Tp w (EZ M i) (JB M i)):=by
 by_cases hc:oM M i
 ·have e1:EZ M i=fA M i:=if_pos hc;have e2:JB M i=0:=if_pos hc;rw[e1,e2];obtain⟨j,rfl⟩:∃j:Nat,i=j:=⟨i.toNat,by have:=hc.1;omega⟩;refine(OJ j hc w h).mono ?_;rintro e w' ⟨v,rfl,hv,hB⟩;have hl:(fA M j).length=128:=hv.1;obtain⟨b,c,rfl,hc,hr⟩:=hv.row;exact⟨_,c,by rw[hl],by rw[hl];exact hr,hB,by omega⟩
 ·have e1:EZ M i=[]:=if_neg hc;have e2:JB M i=1:=if_neg hc;rw[e1,e2];refine(OI i hc w h).mono ?_;rintro e w' ⟨rfl,rfl⟩;exact⟨none,0,rfl,ah.nil _ _ _,Below.refl _ _,Nat.le_refl _⟩
theorem OT{F:Nat→Prop}{d sb mb:Nat}{l:List (Int×Value)}{M:dA}(jd cut:Int)(w:World)(h:bO F w d sb mb l M):
  Calls Tryz.prog 7 #[.pointer (some ⟨d,0,none⟩),.slice none 0 0,.int .i64 jd,.int .i64 cut] w (Bt F w d sb mb (OO M [] jd cut)):=
 OP (S:=fun _=>False) [] none 0 jd cut w h (ah.nil _ _ _) (fun _ h=>h.elim)
theorem Keeps.low{F:Nat→Prop}{B:Nat}{w w':World}(h:Keeps F w w')(hB:B≤w.heap.size)(hF:∀x,F x→B≤x):Below B w w':=
 h.bQ hB fun x hx hf=>by have:=hF x hf;omega
theorem tZ{M:dA}(h:M.dirty=[])(hl:M.safe.length%128=0):zY M=M.safe:=by
 unfold zY;rw[ku (g:=rowsOf M.safe) (fun i _=>by simp[fA,h,aj]),qj (by omega)]
theorem Xc{F:Nat→Prop}{d sb mb:Nat}{l:List (Int×Value)}{M:dA}{w:World}(h:bO F w d sb mb l M):(zY M).length=M.safe.length:=by
 unfold zY;rw[tX (fun i hi=>jU h hi)];have:=h.len;omega
theorem bO.keep{F:Nat→Prop}{d sb mb:Nat}{l:List (Int×Value)}{M:dA}{w w':World}(h:bO F w d sb mb l M)(hs:w.heap.size≤w'.heap.size)(hk:∀x,F x→w'.heap[x]? =w.heap[x]?):bO F w' d sb mb l M:=
 ⟨(hk _ h.own.1).trans h.head,(hk _ h.own.2.1).trans h.safe,h.len,h.map.kept (hk _ h.own.2.2),h.sorted,fun k=>(h.rows k).imp fun x y hr=>hr.move fun b hb' _=>⟨hb',hk _ hb'.1⟩,h.range,h.own,h.apart,fun x hx=>by have:=h.low x hx;omega,h.writes⟩
structure dP(o:Mark)(i:Nat)(w:World)(d n:Nat)(b:List UInt8)(cl:Prop)(c:Int):Prop where
 at_:∃F sb mb l M,bO F w d sb mb l M∧(∀x,F x→o x=i)∧M.safe.length=n*128∧zY M=b∧(cl→M.dirty=[])∧M.writes≤c
section
variable{W w w':World}{o o':Mark}{i d n:Nat}{b:List UInt8}{cl:Prop}{c:Int}
theorem dP.step{I:Nat→Prop}(h:dP o i w d n b cl c)(hI:¬I i)(hs:Step o I w o' w'):dP o' i w' d n b cl c:=by
 obtain⟨F,sb,mb,l,M,hD,hF,h1⟩:=h.at_;exact⟨F,sb,mb,l,M,hD.keep hs.keep.size fun x hx=>hs.block (hD.low x hx) (by rw[hF x hx];exact hI),fun x hx=>(hs.old x (hD.low x hx)).trans (hF x hx),h1⟩
theorem dP.grow(h:dP o i w d n b cl c)(hb:Below w.heap.size w w'):dP o i w' d n b cl c:=by
 obtain⟨F,sb,mb,l,M,hD,hF,h1⟩:=h.at_;exact⟨F,sb,mb,l,M,hD.below hb ace,hF,h1⟩
theorem dP.len(h:dP o i w d n b cl c):b.length=n*128∧64≤n∧n≤4096:=by
 obtain⟨F,sb,mb,l,M,hD,hF,h1,h2,h3,h4⟩:=h.at_;have h5:=hD.len;rw[h1]at h5;refine⟨?_,by omega,by omega⟩;rw[←h2,Xc hD,h1]
theorem dP.weak(h:dP o i w d n b cl c){c':Int}(hc:c≤c'):dP o i w d n b cl c':=by
 obtain⟨F,sb,mb,l,M,hD,hF,h1,h2,h3,h4⟩:=h.at_;exact⟨F,sb,mb,l,M,hD,hF,h1,h2,h3,by omega⟩
theorem dP.lt(h:dP o i w d n b cl c):d<w.heap.size:=by
 obtain⟨F,sb,mb,l,M,hD,hF,h1⟩:=h.at_;exact hD.low d hD.own.1
theorem Xd(n:Nat):zY ⟨List.replicate (n*128) 0,[],0⟩=List.replicate (n*128) 0:=tZ rfl (by simp)
theorem dk_new(hM:Marks W o w)(i:Nat)(hi:i≠0)(n:Nat)(h1:64≤n)(h2:n≤4096):Calls Tryz.prog 10 #[.int .i64 n] w fun e w'=>∃d o',e= .returned (.tuple #[ptr d,.int .i64 0])∧Step o (fun k=>k=i) w o' w'∧dP o' i w' d n (List.replicate (n*128) 0) True 0∧Below w.heap.size w w':=by
 refine(WX n h1 h2 w).mono ?_;rintro e w' ⟨F,d,sb,mb,rfl,hD,hF,hb⟩;obtain⟨o',hs,h3,h4⟩:=dI hM i F (fun x hx=>⟨hF x hx,hD.low x hx⟩) hb;exact⟨d,o',rfl,hs,⟨F,sb,mb,[],_,hD,h3,by simp,Xd n,fun _=>rfl,Int.le_refl _⟩,hb⟩
theorem ql(h:dP o i w d n b cl c):Calls Tryz.prog 32 #[ptr d] w fun e w'=>e= .returned (.int .i64 (n:Int))∧w=w':=by
 obtain⟨F,sb,mb,l,M,hD,hF,h1,h2,h3,h4⟩:=h.at_;refine(zX w hD).mono ?_;rintro e w' ⟨rfl,rfl⟩;rw[h1,abn _ (by omega)];exact⟨rfl,rfl⟩
theorem JC(h:dP o i w d n b cl c)(k:Nat)(hk:k<n):Calls Tryz.prog 156 #[ptr d,.int .i64 (k:Int)] w fun e w'=>∃a cp,e= .returned (.tuple #[.slice a 128 cp,.int .i64 0])∧128≤cp∧ah (fun x=>w.heap.size≤x∧x<w'.heap.size) w' a 128 ((rowsOf b k).map bv)∧Below w.heap.size w w':=by
 have hl:=h.len;obtain⟨F,sb,mb,l,M,hD,hF,h1,h2,h3,h4⟩:=h.at_;have OU:oM M k:=⟨by omega,by rw[h1,abn _ (by omega)];omega⟩;have e1:EZ M k=rowsOf b k:=by
  unfold EZ;rw[if_pos OU,←h2];unfold zY;exact(OL (n:=M.safe.length/128) (f:=fun i:Nat=>fA M i) (by rw[h1,abn _ (by omega)];exact hk) (fun j hj=>jU hD hj)).symm
 have e2:JB M k=0:=if_pos OU;refine(Tq k w hD).mono ?_;rintro e w' ⟨a,cp,rfl,hr,hb,hc⟩;rw[e1]at hr hc⊢;rw[e2];have hlr:(rowsOf b k).length=128:=fU hl.1 hk;rw[hlr]at hr hc⊢;exact⟨a,cp,rfl,hc,hr,hb⟩
def jH(o:Mark)(i:Nat)(w:World)(d n:Nat)(b:List UInt8)(cl:Prop)(c:Int)(v:Value)(e:Ending)(w':World):Prop:=
 e= .returned v∧∃o',Step o (fun k=>k=i) w o' w'∧dP o' i w' d n b cl c
open Classical in
theorem jH.of{F F':Nat→Prop}{sb mb:Nat}{l:List (Int×Value)}{M:dA}{v:Value}(hM:Marks W o w)(hi:i≠0)(hF:∀x,F x→o x=i)(hD:bO F' w' d sb mb l M)(hF':∀x,F' x→F x∨w.heap.size≤x)(hK:Keeps F w w')(h1:M.safe.length=n*128)(h2:zY M=b)(h3:cl→M.dirty=[])(h4:M.writes≤c):jH o i w d n b cl c v (.returned v) w':=by
 obtain⟨o',ho⟩:∃o':Mark,∀x,o' x=if x<w.heap.size then o x else if F' x then i else 0:=⟨_,fun _=>rfl⟩;refine⟨rfl,o',⟨fun x hx=>by rw[ho,if_pos hx],fun x hx hn=> ?_,hK.mono fun x _ hx=>hF x hx⟩,⟨F',sb,mb,l,M,hD,fun x hx=> ?_,h1,h2,h3,h4⟩⟩
 ·rw[ho,if_neg (by omega)]at hn⊢;by_cases hx':F' x
  ·rw[if_pos hx'];exact⟨rfl,hD.low x hx'⟩
  ·rw[if_neg hx']at hn;exact absurd rfl hn
 ·rw[ho];by_cases hlt:x<w.heap.size
  ·rw[if_pos hlt];rcases hF' x hx with h5|h5
   ·exact hF x h5
   ·omega
  ·rw[if_neg hlt,if_pos hx]
theorem OV{F:Nat→Prop}{sb mb:Nat}{l:List (Int×Value)}{M:dA}(hD:bO F w d sb mb l M)(h1:M.safe.length=n*128)(k:Nat)(hk:k<n)(bs:List UInt8)(hl:bs.length=128):zY (yw M k bs)=splice (zY M) (k*128) bs:=by
 have OU:oM M k:=⟨by omega,by rw[h1,abn _ (by omega)];omega⟩;have en:M.safe.length/128=n:=by rw[h1,abn _ (by omega)]
 unfold zY;rw[en];rw[yu hk (fun j hj=>jU hD (by rw[en];exact hj)) (by omega)];have e:yw M k bs=⟨M.safe,bX (fun a b:Int=>decide (a<b)) k bs M.dirty,M.writes+1⟩:=if_pos ⟨OU,hl⟩;rw[e];dsimp only;rw[en];refine ku fun j hj=> ?_;unfold fA;dsimp only;rw[dS];by_cases hjk:j=k
 ·subst hjk;have h9:(fA M j).length=128:=jU hD (by rw[en];exact hj);unfold fA at h9;rw[if_pos rfl,if_pos rfl,hl,aaC (by omega),aaE];rfl
 ·rw[if_neg (by omega),if_neg hjk]
theorem LV(h:dP o i w d n b cl c)(hM:Marks W o w)(hi:i≠0):Calls Tryz.prog 39 #[ptr d] w (jH o i w d n b True c (.tuple #[])):=by
 have hl:=h.len;obtain⟨F,sb,mb,l,M,hD,hF,h1,h2,h3,h4⟩:=h.at_;refine(EX w hD).mono ?_;rintro e w' ⟨rfl,hD',hK⟩;have hs:(Jw M).safe=b:=h2;refine jH.of hM hi hF hD' (fun x hx=> .inl hx) hK ?_ ?_ (fun _=>rfl) h4
 ·rw[hs];exact hl.1
 ·rw[tZ rfl (by rw[hs,hl.1];omega),hs]
theorem Xe(h:dP o i w d n b True c)(hM:Marks W o w)(hi:i≠0)(jd cut:Int):Calls Tryz.prog 7 #[ptr d,.slice none 0 0,.int .i64 jd,.int .i64 cut] w (jH o i w d n b True c (.tuple #[])):=by
 have hl:=h.len;obtain⟨F,sb,mb,l,M,hD,hF,h1,h2,h3,h4⟩:=h.at_;have hd:=h3 trivial;refine(OT jd cut w hD).mono ?_;rintro e w' ⟨rfl,hD',hK⟩;have hs:(OO M [] jd cut).safe=b:=by
  show mix (M.safe.length/128) (iY M [] jd cut)=b;rw[←h2];unfold zY;refine ku fun j hj=> ?_;unfold iY iP fA;rw[hd];simp[aj]
 refine jH.of hM hi hF hD' (fun x hx=> .inl hx) hK ?_ ?_ (fun _=>rfl) h4
 ·rw[hs];exact hl.1
 ·rw[tZ rfl (by rw[hs,hl.1];omega),hs]
end
open Go.ChangeShapes Go.WideShapes Go.ChangeAt Go.RowKit Go.Shelf
attribute [local go_sem] Oper.semAt_some
theorem Ij(a:Option Addr)(n c:Nat)(w:World):Calls Tryz.prog 96 #[.slice a n c,.int .i64 128] w fun e w'=>e= .returned (.func (.func 171) #[] #[.pointer (some ⟨w.heap.size,0,none⟩),.pointer (some ⟨w.heap.size+1,0,none⟩)])∧w'=(w.alloc (.cells #[.slice a n c] 32)).alloc (.cells #[.int .i64 128] 3):=by
 go_enter Tryz.func96,Tryz.ntmps96;go_wp2_with fail;go_ret;simp
theorem Ck(F:Fence)(n:Nat)(hF:F.fn 171)(hro:F.round=none)(hn:1≤n)(Bs Bn b off c N:Nat)(hN:N≤5000)(hc:N*128≤c)(w:World)(h1:Bs<w.heap.size)(h2:Bn<w.heap.size)(hBs:w.cell? ⟨Bs,0,none⟩=some (.slice (some ⟨b,off,none⟩) (N*128) c))(hBn:w.cell? ⟨Bn,0,none⟩=some (.int .i64 128)):
  SeqStopsK F n Tryz.prog 171 #[.pointer (some ⟨Bs,0,none⟩),.pointer (some ⟨Bn,0,none⟩)] (fun x:Fin N=>EU b off x.val) (YO Bs Bn) (fun xs=>xs=List.finRange N) (fun _=>True) N w:=fun l J Jx W hW hJ hJx hY h0=>
 Tj F n hF hro hn l Bs Bn b off c N hN hc J Jx W.heap.size hJ hY W ((hW.cell (p:=⟨Bs,0,none⟩) h1).trans hBs) ((hW.cell (p:=⟨Bn,0,none⟩) h2).trans hBn) h0
theorem YO.trans{Bs Bn:Nat}{A B C:World}(h:YO Bs Bn A B)(k:YO Bs Bn B C):YO Bs Bn A C:=⟨k.1.trans h.1,k.2.trans h.2⟩
theorem YO.put{Bs Bn s:Nat}(h1:Bs<s)(h2:Bn<s)(W:World)(l:Nat)(o o':Obj)(hl:s≤l):YO Bs Bn W (W.putObj l o'):=
 ⟨World.cell?_of_block (a:=⟨Bs,0,none⟩) (World.putObj_heap_other (by dsimp only;omega)),World.cell?_of_block (a:=⟨Bn,0,none⟩) (World.putObj_heap_other (by dsimp only;omega))⟩
theorem bO.slim{F:Nat→Prop}{d sb mb:Nat}{l:List (Int×Value)}{M:dA}{w:World}(h:bO F w d sb mb l M):bO (fun x=>F x∧(x=mb∨∃c t m,w.heap[x]? =some (.cells c t m))) w d sb mb l M:=
 ⟨h.head,h.safe,h.len,h.map,h.sorted,fun k=>(h.rows k).imp fun x y hr=>by
  obtain⟨h1,b,cap,cur,h2,⟨hF,h3⟩,h4,h5⟩:=hr;exact⟨h1,b,cap,cur,h2,⟨⟨hF,.inr ⟨_,_,_,h4⟩⟩,h3⟩,h4,h5⟩,h.range,⟨⟨h.own.1,.inr ⟨_,_,_,h.head⟩⟩,⟨h.own.2.1,.inr ⟨_,_,_,h.safe⟩⟩,⟨h.own.2.2,.inl rfl⟩⟩,h.apart,fun x hx=>h.low x hx.1,h.writes⟩
def Cm(bs:List UInt8){N:Nat}(pre:List (Fin N)):List UInt8:=(pre.map fun x=>rowsOf bs x.val).flatten
theorem Ik{bs:List UInt8}{N:Nat}(h:bs.length=N*128):∀pre:List (Fin N),(Cm bs pre).length=pre.length*128
 |[]=>rfl
 |x::r=>by
  have h1:=Ik h r;unfold Cm at h1⊢;rw[List.map_cons,List.flatten_cons,List.length_append,h1,fU h x.isLt,List.length_cons];omega
theorem Il{bs:List UInt8}{N:Nat}(h:bs.length=N*128):Cm bs (List.finRange N)=bs:=by
 have h1:=qj h;unfold mix at h1;unfold Cm;have e:(List.finRange N).map (fun x:Fin N=>rowsOf bs x.val)=(List.range N).map (rowsOf bs):=by apply List.ext_getElem<;>simp
 rw[e];exact h1
theorem LW{α:Type}(s:List α)(off:Nat)(a b:List α)(h:off+a.length+b.length≤s.length):splice (splice s off a) (off+a.length) b=splice s off (a++b):=by
 have h1:(s.take off).length=off:=by rw[List.length_take];omega
 have hl:(s.take off++a).length=off+a.length:=by rw[List.length_append,h1]
 unfold splice;rw[List.length_append,←List.append_assoc (s.take off) a,abp hl,List.drop_append,aaC (by omega),List.nil_append,hl,Nat.add_sub_cancel_left,aaS,List.append_assoc,List.append_assoc,Nat.add_assoc]
structure vM(F0:Nat→Prop)(w1:World)(d sb mb bf n first:Nat)(img bs:List UInt8)(c:Int){N:Nat}(pre:List (Fin N))(W:World):Prop where
 at_:∃F l M,bO F W d sb mb l M∧(∀x,F x→x=mb∨∃c t m,W.heap[x]? =some (.cells c t m))∧(∀x,F x→F0 x∨w1.heap.size≤x)∧M.safe.length=n*128∧zY M=splice img (first*128) (Cm bs pre)∧M.writes≤c+pre.length
 keep:Keeps (fun x=>F0 x∨x=bf) w1 W
 box:W.heap[bf]? =some (.cells #[.int .i64 ((first+pre.length:Nat):Int)] 3 (0,0))
section
variable{F0:Nat→Prop}{w1:World}{d sb mb bf n first:Nat}{img bs:List UInt8}{c:Int}{N:Nat}
theorem vM.own(hbf:bf<w1.heap.size)(hmb:mb<w1.heap.size):OwnFrom w1.heap.size (fun(pre:List (Fin N)) W=>vM F0 w1 d sb mb bf n first img bs c pre W):=fun pre W W' row h hg hrow=>by
 obtain⟨F,l,M,h1,h2,h3,h4⟩:=h.at_;have hne:∀x,F x→some x≠row:=fun x hx e=>by
  obtain⟨hB,o,ho,hn⟩:=hrow x e.symm;rcases h2 x hx with rfl|⟨cs,t,m,hc⟩
  ·omega
  ·rw[hc]at ho;cases ho;cases hn
 have hk:∀x,F x→W'.heap[x]? =W.heap[x]? :=fun x hx=>hg.block x (h1.low x hx) (hne x hx);refine⟨⟨F,l,M,h1.keep hg.size hk,fun x hx=> ?_,h3,h4⟩,h.keep.trans (Keeps.grown hg) fun x hx e=> ?_,(hg.block bf (Nat.lt_of_lt_of_le hbf h.keep.size) fun e=> ?_).trans h.box⟩
 ·rw[hk x hx];exact h2 x hx
 ·obtain⟨hB,_⟩:=hrow x e;omega
 ·obtain⟨hB,_⟩:=hrow bf e.symm;omega
theorem vM.start{l:List (Int×Value)}{M:dA}(h:bO F0 w1 d sb mb l M)(hF:∀x,F0 x→x=mb∨∃c t m,w1.heap[x]? =some (.cells c t m))(h1:M.safe.length=n*128)(h2:zY M=img)(h3:M.writes≤c)(hbox:w1.heap[bf]? =some (.cells #[.int .i64 (first:Int)] 3 (0,0)))(hlen:first*128≤img.length):vM F0 w1 d sb mb bf n first img bs c ([]:List (Fin N)) w1:=
 ⟨⟨F0,l,M,h,hF,fun x hx=> .inl hx,h1,by rw[h2];unfold splice Cm;simp,by simpa using h3⟩,Keeps.refl _ _,hbox⟩
theorem vM.write{S:Nat→Prop}{pre:List (Fin N)}{W:World}(h:vM F0 w1 d sb mb bf n first img bs c pre W)(x:Fin N)(hl:pre.length<N)(hfit:first+N≤n)(hbs:bs.length=N*128)(himg:img.length=n*128)(hc:c+N≤1000000000000)(hbf:bf<w1.heap.size)(hmb:mb<w1.heap.size)(hF:¬F0 bf)(a:Option Addr)(cap:Nat)(hr:ah S W a 128 ((rowsOf bs x.val).map bv)):
  Calls Tryz.prog 97 #[ptr d,.int .i64 ((first+pre.length:Nat):Int),.slice a 128 cap] W fun e W2=>e= .returned (.int .i64 0)∧W2.heap[bf]? =W.heap[bf]? ∧KeepsFrom w1.heap.size W W2∧(∀y,y<w1.heap.size→¬F0 y→W2.heap[y]? =W.heap[y]?)∧
   vM F0 w1 d sb mb bf n first img bs c (pre++[x]) (W2.setCell ⟨bf,0,none⟩ (.int .i64 ((first+pre.length+1:Nat):Int))):=by
 obtain⟨F,l,M,hD,h2,h3,h4,h5,h6⟩:=h.at_;obtain⟨k,hk⟩:∃k,k=first+pre.length:=⟨_,rfl⟩
 rw[←hk];have hkn:k<n:=by omega
 have hcl:(rowsOf bs x.val).length=128:=fU hbs x.isLt;have OU:oM M k:=⟨by omega,by rw[h4,abn _ (by omega)];omega⟩;have e:yw M k (rowsOf bs x.val)=⟨M.safe,bX (fun a b:Int=>decide (a<b)) k (rowsOf bs x.val) M.dirty,M.writes+1⟩:=if_pos ⟨OU,hcl⟩;have e2:JA M k (rowsOf bs x.val)=0:=if_pos ⟨OU,hcl⟩;have hnbf:¬F bf:=fun hx=>by
  rcases h3 bf hx with h9|h9
  ·exact hF h9
  ·omega
 have hbfW:bf<W.heap.size:=(uh.1 h.box).1;have hws:=h.keep.size;refine(OQ k a 128 cap (rowsOf bs x.val) (by omega) W hr hD).mono ?_;rintro e' W2 ⟨rfl,F',l',hD',hF',hK⟩;rw[e2];have hs2:=hK.size;have hlow:∀y,y<w1.heap.size→¬F0 y→W2.heap[y]? =W.heap[y]? :=fun y hy hn=>hK.block y (by omega) fun hx=>by
  rcases h3 y hx with h9|h9
  ·exact hn h9
  ·omega
 have hbox:=(hlow bf hbf hF).trans h.box;refine⟨rfl,hlow bf hbf hF,⟨hs2,fun j o hj ho hn=> ?_⟩,hlow,?_⟩
 ·refine(hK.block j (uh.1 ho).1 fun hx=> ?_).trans ho;rcases h2 j hx with rfl|⟨cs,t,m,hcs⟩
  ·omega
  ·rw[hcs]at ho;cases ho;cases hn
 ·have hS:=hD'.slim;have hn':∀y,F' y→y≠bf:=fun y hy e9=>by
   rcases hF' y hy with h9|h9
   ·exact hnbf (e9▸h9)
   ·omega
  have hoth:∀y,y≠bf→(W2.setCell ⟨bf,0,none⟩ (.int .i64 ((k+1:Nat):Int))).heap[y]? =W2.heap[y]? :=fun y hy=>aL W2 ⟨bf,0,none⟩ _ y hy;refine⟨⟨_,l',yw M k (rowsOf bs x.val),hS.keep (by rw[size_set];exact Nat.le_refl _) fun y hy=>hoth y (hn' y hy.1),fun y hy=> ?_,fun y hy=> ?_,?_,?_,?_⟩,?_,?_⟩
  ·rw[hoth y (hn' y hy.1)];exact hy.2
  ·rcases hF' y hy.1 with h9|h9
   ·exact h3 y h9
   ·exact .inr (by omega)
  ·rw[e];exact h4
  ·rw[OV hD h4 k hkn _ hcl,h5];have h9:=Ik hbs pre;rw[show k*128=first*128+(Cm bs pre).length by rw[h9,hk];omega,LW _ _ _ _ (by rw[h9,hcl,himg];omega)];unfold Cm;simp
  ·rw[e];show M.writes+1≤c+((pre++[x]).length:Nat);rw[List.length_append,aaV];omega
  ·refine(h.keep.trans hK fun y hy hx=> ?_).trans (Keeps.kX W2 ⟨bf,0,none⟩ _) fun y hy hx=> .inr hx;rcases h3 y hx with h9|h9
   ·exact .inl h9
   ·omega
  ·rw[aK hbox,show first+(pre++[x]).length=k+1 by rw[List.length_append,aaV,hk];omega];rfl
theorem vM.done{W0 w W:World}{o:Mark}{i D:Nat}{ob o':Obj}(h:vM F0 w1 d sb mb bf n first img bs c (List.finRange N) W)(hM:Marks W0 o w)(hi:i≠0)(hF:∀x,F0 x→o x=i)(hb:Below w.heap.size w w1)(hlow:∀x,F0 x→x<w.heap.size)(hbf:w.heap.size≤bf)(hD:w1.heap.size≤D)(NZ:W.heap[D]? =some ob)(hmb:mb<w.heap.size)(hn:ob.isCells=false)(hbs:bs.length=N*128):jH o i w d n (splice img (first*128) bs) False (c+N) (.tuple #[]) (.returned (.tuple #[])) (W.putObj D o'):=by
 obtain⟨F,l,M,h1,h2,h3,h4,h5,h6⟩:=h.at_;have hk:=h.keep;have hs:=hk.size;have hs0:=hb.size;have hg:=grownBy_putObj' W D o';have hne:∀x,F x→x≠D:=fun x hx e=>by
  subst e;rcases h2 x hx with rfl|⟨cs,t,m,hc⟩
  ·omega
  ·rw[hc]at NZ;cases NZ;cases hn
 refine jH.of hM hi hF (h1.keep hg.size fun x hx=>hg.block x (h1.low x hx) fun e=>hne x hx (aaH e)) (fun x hx=> ?_) ?_ h4 ?_ (fun h=>h.elim) ?_
 ·rcases h3 x hx with h9|h9
  ·exact .inl h9
  ·exact .inr (by omega)
 ·refine⟨hg.os.trans (hk.os.trans hb.os),hg.tape.trans (hk.tape.trans hb.tape),hg.output.trans (hk.output.trans hb.output),by have:=hg.size;omega,fun x hx hn=> ?_⟩;exact(hg.block x (by omega) fun e=>by have:=aaH e;omega).trans ((hk.block x (by omega) fun h9=>by
   rcases h9 with h9|h9
   ·exact hn h9
   ·omega).trans (hb.block x hx))
 ·rw[h5,Il hbs]
 ·rw[List.length_finRange]at h6;exact h6
theorem vM.flush{W0 w W:World}{o:Mark}{i D:Nat}{ob:Obj}(h:vM F0 w1 d sb mb bf n first img bs c (List.finRange N) W)(hM:Marks W0 o w)(hi:i≠0)(hF:∀x,F0 x→o x=i)(hb:Below w.heap.size w w1)(hlow:∀x,F0 x→x<w.heap.size)(hbf:w.heap.size≤bf)(hD:w1.heap.size≤D)(NZ:W.heap[D]? =some ob)(hmb:mb<w.heap.size)(hn:ob.isCells=false)(hbs:bs.length=N*128):
  Calls Tryz.prog 39 #[ptr d] W fun e W2=>e= .returned (.tuple #[])∧W2.heap[D]? =some ob∧∀o',jH o i w d n (splice img (first*128) bs) True (c+N) (.tuple #[]) (.returned (.tuple #[])) (W2.putObj D o'):=by
 obtain⟨F,l,M,h1,h2,h3,h4,h5,h6⟩:=h.at_;have hk:=h.keep;have hs:=hk.size;have hs0:=hb.size;have hlm:=h1.len;have hro:=fun j (hj:j<M.safe.length/128)=>jU h1 hj;have hne:∀x,F x→x≠D:=fun x hx e=>by
  subst e;rcases h2 x hx with rfl|⟨cs,t,m,hc⟩
  ·omega
  ·rw[hc]at NZ;cases NZ;cases hn
 refine(EX W h1).mono ?_;rintro e W2 ⟨rfl,hD',hK⟩;have hDW:=(uh.1 NZ).1;have hs2:=hK.size;refine⟨rfl,(hK.block D hDW fun hx=>hne D hx rfl).trans NZ,fun o'=> ?_⟩;have hg:=grownBy_putObj' W2 D o';have hsf:(Jw M).safe=splice img (first*128) bs:=by rw[←Il hbs,←h5];rfl
 have hsl:(Jw M).safe.length=n*128:=by
  show(mix _ _).length=_;rw[tX hro,h4];omega
 refine jH.of hM hi hF (hD'.keep hg.size fun x hx=>hg.block x (hD'.low x hx) fun e=>hne x hx (aaH e)) (fun x hx=> ?_) ?_ hsl ?_ (fun _=>rfl) ?_
 ·rcases h3 x hx with h9|h9
  ·exact .inl h9
  ·exact .inr (by omega)
 ·refine⟨hg.os.trans (hK.os.trans (hk.os.trans hb.os)),hg.tape.trans (hK.tape.trans (hk.tape.trans hb.tape)),hg.output.trans (hK.output.trans (hk.output.trans hb.output)),by have:=hg.size;omega,fun x hx hnF=> ?_⟩;exact(hg.block x (by omega) fun e=>by have:=aaH e;omega).trans ((hK.block x (by omega) fun h9=>by
   rcases h3 x h9 with h9|h9
   ·exact hnF h9
   ·omega).trans ((hk.block x (by omega) fun h9=>by
   rcases h9 with h9|h9
   ·exact hnF h9
   ·omega).trans (hb.block x hx)))
 ·rw[tZ rfl (by rw[hsl];omega),hsf]
 ·rw[List.length_finRange]at h6;exact h6
end
end Go.Proofs.YtmflaonodghbcaaGreatDoor
