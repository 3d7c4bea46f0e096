/- package state: as plain data; in memory. package state: New, Now, free, fd, no. package sha: rotated words, loaded words. SHA-256, plainly, in numbers. A drawn region taken by hand: the condition S may be made stronger on the way. -/
import Derived.Test.YtmabllemjkcobaaGreatDoorM23
import Derived.Test.YtmabllemjkcobaaGreatDoorM19
import Derived.Test.YtmabllemjkcobaaGreatDoorM17
import Derived.Test.YtmabllemjkcobaaGreatDoorM10
import Derived.Test.YtmabllemjkcobaaGreatDoorM01
import Derived.Deep.RegionHeld3
namespace Go.Proofs.YtmabllemjkcobaaGreatDoor
open Go.ChangeShapes Go.WideShapes Go.ChangeAt Go.RowKit
set_option linter.unusedVariables false
set_option linter.unusedSimpArgs false
structure EC where
 wr:Bool
 id:Int
 b:List UInt8
structure eF where
 t:aK
 s:nQ
 now:Int
 fds:Nat→Option EC
def xW:eF:=⟨uF,Hg,0,fun _=>none⟩
def tT (o:Mark) (w:World) (v:Value):Option EC→Prop
 |none=>v= .pointer none
 |some f=>∃q a c,v=ptr q∧o q=0∧q<w.heap.size∧w.heap[q]? =some (.cells #[.bool f.wr, .int .i64 f.id, .slice a f.b.length c] 141 (0,0))∧f.b.length≤c∧aj (Free o w) w a f.b.length (f.b.map bv)
def wU (t s:Nat) (now:Int) (v:Nat→Value):Array Value:= #[ptr t,ptr s, .int .u64 now,v 0,v 1,v 2,v 3,v 4,v 5,v 6,v 7]
structure aU (o:Mark) (i j k:Nat) (w:World) (p:Nat) (M:eF):Prop where
 at_:∃t s v,w.heap[p]? =some (.cells (wU t s M.now v) 66 (0,0))∧dR o i w s M.s∧dN o j w t M.t∧∀n,n<8→tT o w (v n) (M.fds n)
 own:o p=k
 low:p<w.heap.size
theorem tT.step {o o':Mark} {I:Nat→Prop} {w w':World} {v:Value} {f:Option EC} (h:tT o w v f) (hi:¬I 0) (hs:Step o I w o' w'):tT o' w' v f:=by
 cases f with
 |none=>exact h
 |some f=>
  obtain⟨q,a,c,h1,h2,h3,h4,h5,h6⟩:=h
  exact⟨q,a,c,h1,(hs.old q h3).trans h2,Nat.lt_of_lt_of_le h3 hs.keep.size,(hs.block h3 (by rw[h2];exact hi)).trans h4,h5,h6.free hi hs⟩
theorem tT.grow {o:Mark} {w w':World} {v:Value} {f:Option EC} (h:tT o w v f) (hb:Below w.heap.size w w'):tT o w' v f:=by
 cases f with
 |none=>exact h
 |some f=>
  obtain⟨q,a,c,h1,h2,h3,h4,h5,h6⟩:=h
  exact⟨q,a,c,h1,h2,Nat.lt_of_lt_of_le h3 hb.size,(hb.block q h3).trans h4,h5,h6.move hb.size fun b hb' hbw=>⟨⟨hb'.1,Nat.lt_of_lt_of_le hb'.2 hb.size⟩,hb.block b hbw⟩⟩
theorem aU.step {o o':Mark} {I:Nat→Prop} {i j k:Nat} {w w':World} {p:Nat} {M:eF} (h:aU o i j k w p M) (h0:¬I 0) (hi:¬I i) (hj:¬I j) (hk:¬I k) (hs:Step o I w o' w'):aU o' i j k w' p M:=by
 obtain⟨t,s,v,h1,h2,h3,h4⟩:=h.at_
 exact⟨⟨t,s,v,(hs.block h.low (by rw[h.own];exact hk)).trans h1,h2.step h0 hi hs,h3.step h0 hj hs,fun n hn=>(h4 n hn).step h0 hs⟩,(hs.old p h.low).trans h.own,Nat.lt_of_lt_of_le h.low hs.keep.size⟩
theorem aU.grow {W:World} {o:Mark} {i j k:Nat} {w w':World} {p:Nat} {M:eF} (h:aU o i j k w p M) (hM:Marks W o w) (hb:Below w.heap.size w w'):aU o i j k w' p M:=
 h.step (I:=fun _=>False) (fun e=>e) (fun e=>e) (fun e=>e) (fun e=>e) (Step.grow hM hb)
theorem fH {w:World} {p t s:Nat} {now:Int} {v:Nat→Value} (h:w.heap[p]? =some (.cells (wU t s now v) 66 (0,0))):w.cell? ⟨p,0,none⟩=some (ptr t)∧w.cell? ⟨p,1,none⟩=some (ptr s)∧w.cell? ⟨p,2,none⟩=some (.int .u64 now)∧(∀n,n<8→w.cell? ⟨p,3+n,none⟩=some (v n))∧∀j,w.frozen? ⟨p,j,none⟩=false:=by
 refine⟨?_,?_,?_,fun n hn=> ?_,fun j=> ?_⟩
 ·simp[World.cell?,h,wU]
 ·simp[World.cell?,h,wU]
 ·simp[World.cell?,h,wU]
 ·rcases (show n=0∨n=1∨n=2∨n=3∨n=4∨n=5∨n=6∨n=7 by omega)with rfl|rfl|rfl|rfl|rfl|rfl|rfl|rfl<;>simp[World.cell?,h,wU]
 ·simp[World.frozen?,h]
theorem TN (t s:Nat) (now:Int) (v:Nat→Value) (n:Nat) (hn:n<8) (x:Value):(wU t s now v).setIfInBounds (3+n) x=wU t s now (fun m=>if m=n then x else v m):=by
 rcases (show n=0∨n=1∨n=2∨n=3∨n=4∨n=5∨n=6∨n=7 by omega)with rfl|rfl|rfl|rfl|rfl|rfl|rfl|rfl<;>rfl
theorem TP (t s:Nat) (now u:Int) (v:Nat→Value):(wU t s now v).setIfInBounds 2 (.int .u64 u)=wU t s u v:=rfl
def jK (M:eF) (n:Int) (wr:Bool):Option EC:=if 0≤n∧n<8 then(match M.fds n.toNat with|some f=>if f.wr=wr then some f else none|none=>none)else none
def Hu (M:eF) (v:Int):Prop:=(v= -1∧∀n,n<8→M.fds n≠none)∨∃n:Nat,n<8∧v=n∧M.fds n=none∧∀m,m<n→M.fds m≠none
def uV (z:Int):Value:= .agg #[.int .i64 z, .int .i64 0, .slice none 0 0, .slice none 0 0, .int .i64 0, .int .i64 0, .int .i64 0, .int .i64 0, .int .u64 0, .bool false]
theorem gu (z:Int) (w:World):Calls Tryz.prog 37 #[.int .i64 z] w fun e w'=>e= .returned (uV z)∧Below w.heap.size w w':=by
 go_enter Tryz.func37,Tryz.ntmps37
 go_wp2
 refine bodyPost_ret (v:=uV z) (by simp[results,Tryz.results37,uV,go_sem]) rfl ⟨rfl,wall w _⟩
section
variable {W w:World} {o:Mark} {i j k p:Nat} {M:eF}
def Dv (o:Mark) (w:World) (M:eF) (n:Int) (b:Bool) (e:Ending):Prop:=
 (jK M n b=none∧e= .returned (.tuple #[.pointer none, .bool false]))∨∃f v,jK M n b=some f∧e= .returned (.tuple #[v, .bool true])∧tT o w v (some f)
theorem Qt (h:aU o i j k w p M):Calls Tryz.prog 31 #[ptr p] w fun e w'=>e= .returned (.int .u64 M.now)∧Below w.heap.size w w':=by
 obtain⟨t,s,v,h1,h2,h3,h4⟩:=h.at_
 obtain⟨c0,c1,c2,c3,c4⟩:=fH h1
 clear h h1 h2 h3 h4
 go_enter Tryz.func31,Tryz.ntmps31
 go_wp2
 go_ret
 exact⟨rfl,Below.refl _ _⟩
set_option maxRecDepth 100000 in
set_option maxHeartbeats 4000000 in
theorem Bn (h:aU o i j k w p M) (n:Int) (b:Bool):Calls Tryz.prog 100 #[ptr p, .int .i64 n, .bool b] w fun e w'=>w'=w∧Dv o w M n b e:=by
 obtain⟨t,s,v,h1,h2,h3,h4⟩:=h.at_
 obtain⟨c0,c1,c2,c3,c4⟩:=fH h1
 have H4:=Lib.hid h4
 have C3:=Lib.hid c3
 clear h h1 h2 h3 h4 c3 c4
 by_cases hn0:n<0
 ·have hg:Hid (jK M n b=none):=by have:jK M n b=none:=by unfold jK;rw[if_neg (by omega)]
                                  exact Lib.hid this
  have hd:decide (n<0)=true:=by simpa using hn0
  go_enter Tryz.func100,Tryz.ntmps100
  go_wp2_with fail
  go_ret2
  exact⟨rfl, .inl ⟨hg.out,rfl⟩⟩
 ·by_cases nD:8≤n
  ·have hg:Hid (jK M n b=none):=by have:jK M n b=none:=by unfold jK;rw[if_neg (by omega)]
                                   exact Lib.hid this
   have hd:decide (n<0)=false:=by simpa using hn0
   have hd2:decide (8≤n)=true:=by simpa using nD
   go_enter Tryz.func100,Tryz.ntmps100
   go_wp2_with fail
   go_ret2
   exact⟨rfl, .inl ⟨hg.out,rfl⟩⟩
  ·obtain⟨m,rfl⟩:∃m:Nat,n=m:=⟨n.toNat,by omega⟩
   have hm:m<8:=by omega
   have hcm:=C3.out m hm
   have hf:=H4.out m hm
   have hg:jK M m b=match M.fds m with|some f=>if f.wr=b then some f else none|none=>none:=by
    unfold jK;rw[if_pos (by omega)];rfl
   have hd:decide ((m:Int)<0)=false:=by simp
   have hd2:decide (8≤(m:Int))=false:=by simp;omega
   have i0:(0:Int)≤m:=by omega
   have i1:(m:Int)<8:=by omega
   cases sM:M.fds m with
   |none=>
    rw[sM]at hf hg
    have hv:v m= .pointer none:=hf
    rw[hv]at hcm
    have HG:=Lib.hid hg
    clear hf hg sM hv
    go_enter Tryz.func100,Tryz.ntmps100
    go_wp2_with fail
    go_ret2
    exact⟨rfl, .inl ⟨HG.out,rfl⟩⟩
   |some f=>
    rw[sM]at hf hg
    have HF:=Lib.hid hf
    obtain⟨q,a,c,hv,hq0,hq1,hq2,_,_⟩:=hf
    rw[hv]at hcm HF
    have q0:w.cell? ⟨q,0,none⟩=some (.bool f.wr):=by simp[World.cell?,hq2]
    obtain⟨fw,fi,fb⟩:=f
    have HG:=Lib.hid hg
    clear hg sM hv hq2
    cases fw with
    |false=>
     cases b with
     |false=>
      go_enter Tryz.func100,Tryz.ntmps100
      go_wp2_with fail
      go_ret2
      exact⟨rfl, .inr ⟨⟨false,fi,fb⟩,_,HG.out.trans (if_pos trivial),rfl,HF.out⟩⟩
     |true=>
      go_enter Tryz.func100,Tryz.ntmps100
      go_wp2_with fail
      go_ret2
      exact⟨rfl, .inl ⟨HG.out.trans (if_neg (by simp)),rfl⟩⟩
    |true=>
     cases b with
     |false=>
      go_enter Tryz.func100,Tryz.ntmps100
      go_wp2_with fail
      go_ret2
      exact⟨rfl, .inl ⟨HG.out.trans (if_neg (by simp)),rfl⟩⟩
     |true=>
      go_enter Tryz.func100,Tryz.ntmps100
      go_wp2_with fail
      go_ret2
      exact⟨rfl, .inr ⟨⟨true,fi,fb⟩,_,HG.out.trans (if_pos trivial),rfl,HF.out⟩⟩
end
abbrev V_ (a b:Int):Int:=bits .or .u32 a b
abbrev xX (a b:Int):Int:=bits .xor .u32 a b
abbrev MC (a b:Int):Int:=bits .and .u32 a b
def xY (x:Int) (s:Nat):Int:=V_ (x*2^s%4294967296) (x/2^(32-s))
theorem lJ (x k:Int) (s:Nat) (w:World) (hk:bits .and .u64 (IntKind.u64.wrap k) 31=(s:Int)) (h0:0<s) (h1:s<32):Calls Tryz.prog 240 #[.int .u32 x, .int .i64 k] w fun e w'=>e= .returned (.int .u32 (xY x s))∧w=w':=by
 have e1:(0:Int)≤(s:Int):=by omega
 have e2:(s:Int)≤32:=by omega
 have e3:IntKind.u64.wrap (32-(s:Int))=32-(s:Int):=by simp[IntKind.wrap,IntKind.bits,IntKind.signed];omega
 have e4:(0:Int)≤32-(s:Int):=by omega
 have e5:32-(s:Int)≤32:=by omega
 go_enter Tryz.func240,Tryz.ntmps240
 go_wp2
 go_ret
 exact⟨rfl,rfl⟩
def RZ (a b c d:UInt8):Int:=V_ (V_ (V_ (V_ 0 ((d.toNat:Int)%4294967296)) ((c.toNat:Int)%4294967296*256%4294967296)) ((b.toNat:Int)%4294967296*65536%4294967296)) ((a.toNat:Int)%4294967296*16777216%4294967296)
theorem ME {S:Nat→Prop} (ad:Option Addr) (n c:Nat) (bs:List UInt8) (w:World) (hr:aj S w ad n (bs.map bv)) (hn:4≤n):Calls Tryz.prog 239 #[.slice ad n c] w fun e w'=>e= .returned (.int .u32 (RZ (bs.getD 0 0) (bs.getD 1 0) (bs.getD 2 0) (bs.getD 3 0)))∧w=w':=by
 obtain⟨b,off,rfl,-,-,hc⟩:=hr.at_ (by omega)
 have hl:bs.length=n:=by simpa using hr.length
 have hm:=hr.small
 unfold maxLen at hm
 have q:∀i,i<4→w.cell? ⟨b,off+i,none⟩=some (bv (bs.getD i 0)):=fun i hi=>by
  rw[hc i (by omega),List.getElem?_map,List.getElem?_eq_getElem (by omega),List.getD_eq_getElem?_getD,List.getElem?_eq_getElem (by omega)]
  rfl
 have q0:w.cell? ⟨b,off,none⟩=some (.int .u8 ((bs.getD 0 0).toNat:Int)):=q 0 (by omega)
 have q1:w.cell? ⟨b,off+1,none⟩=some (.int .u8 ((bs.getD 1 0).toNat:Int)):=q 1 (by omega)
 have q2:w.cell? ⟨b,off+2,none⟩=some (.int .u8 ((bs.getD 2 0).toNat:Int)):=q 2 (by omega)
 have q3:w.cell? ⟨b,off+3,none⟩=some (.int .u8 ((bs.getD 3 0).toNat:Int)):=q 3 (by omega)
 generalize bs.getD 0 0=b0 at*
 generalize bs.getD 1 0=b1 at*
 generalize bs.getD 2 0=b2 at*
 generalize bs.getD 3 0=b3 at*
 have d3:((n:Int)==3)=false:=by simp;omega
 have d2:((n:Int)==2)=false:=by simp;omega
 have d1:((n:Int)==1)=false:=by simp;omega
 have d0:((n:Int)==0)=false:=by simp;omega
 have l3:(3:Int)<(n:Int):=by omega
 have l2:(2:Int)<(n:Int):=by omega
 have l1:(1:Int)<(n:Int):=by omega
 have l0:(0:Int)<(n:Int):=by omega
 clear q hc hr
 go_enter Tryz.func239,Tryz.ntmps239
 go_wp2
 go_ret
 exact⟨rfl,rfl⟩
def kM:List Int:=[1116352408,1899447441,3049323471,3921009573,961987163,1508970993,2453635748,2870763221,3624381080,310598401,607225278,1426881987,1925078388,2162078206,2614888103,3248222580,3835390401,4022224774,264347078,604807628,770255983,1249150122,1555081692,1996064986,2554220882,2821834349,2952996808,3210313671,3336571891,3584528711,113926993,338241895,666307205,773529912,1294757372,1396182291,1695183700,1986661051,2177026350,2456956037,2730485921,2820302411,3259730800,3345764771,3516065817,3600352804,4094571909,275423344,430227734,506948616,659060556,883997877,958139571,1322822218,1537002063,1747873779,1955562222,2024104815,2227730452,2361852424,2428436474,2756734187,3204031479,3329325298]
def Bo:List Int:=[1779033703,3144134277,1013904242,2773480762,1359893119,2600822924,528734635,1541459225]
abbrev iB (z:Int):Value:= .int .u32 z
abbrev JB (z:Int):Int:=z%4294967296
def Hw (b:List UInt8) (i:Nat):Int:=RZ ((b.drop (i*4)).getD 0 0) ((b.drop (i*4)).getD 1 0) ((b.drop (i*4)).getD 2 0) ((b.drop (i*4)).getD 3 0)
def sg0 (x:Int):Int:=xX (xX (xY x 25) (xY x 14)) (x/8)
def sg1 (x:Int):Int:=xX (xX (xY x 15) (xY x 13)) (x/1024)
def Hy (ws:List Int):Int:=JB (JB (JB (ws.getD (ws.length-16) 0+sg0 (ws.getD (ws.length-15) 0))+ws.getD (ws.length-7) 0)+sg1 (ws.getD (ws.length-2) 0))
def fD (b:List UInt8):Nat→List Int
 |0=>(List.range 16).map (Hw b)
 |n+1=>fD b n++[Hy (fD b n)]
theorem r_ (b:List UInt8):∀n,(fD b n).length=16+n
 |0=>by simp[fD]
 |n+1=>by unfold fD;rw[List.length_append,r_ b n];simp;omega
structure FB where
 a:Int
 c:Int
 d:Int
 e:Int
 f:Int
 g:Int
 h:Int
 j:Int
def ZG (x:Int):Int:=bits .xor .u32 (if IntKind.u32.signed=true then-1 else IntKind.u32.max) x
def tM (s:FB) (k w:Int):Int:=JB (s.j+xX (xX (xY s.f 26) (xY s.f 21)) (xY s.f 7)+xX (MC s.f s.g) (MC (ZG s.f) s.h)+k+w)
def uM (s:FB):Int:=JB (xX (xX (xY s.a 30) (xY s.a 19)) (xY s.a 10)+xX (xX (MC s.a s.c) (MC s.a s.d)) (MC s.c s.d))
def FC (s:FB) (k w:Int):FB:=⟨JB (tM s k w+uM s),s.a,s.c,s.d,JB (s.e+tM s k w),s.f,s.g,s.h⟩
def pK (s:FB) (ws:List Int):Nat→FB
 |0=>s
 |n+1=>FC (pK s ws n) (kM.getD n 0) (ws.getD n 0)
def FB.list (s:FB):List Int:=[s.a,s.c,s.d,s.e,s.f,s.g,s.h,s.j]
def FB.of (h:List Int):FB:=⟨h.getD 0 0,h.getD 1 0,h.getD 2 0,h.getD 3 0,h.getD 4 0,h.getD 5 0,h.getD 6 0,h.getD 7 0⟩
def kF (h:List Int) (b:List UInt8):List Int:=List.zipWith (fun x y=>JB (x+y)) h (pK (FB.of h) (fD b 48) 64).list
theorem pO (h:List Int) (b:List UInt8) (hl:h.length=8):(kF h b).length=8:=by unfold kF;rw[List.length_zipWith,hl];rfl
def runM (h:List Int):Nat→List UInt8→List Int
 |0,_=>h
 |n+1,b=>runM (kF h (b.take 64)) n (b.drop 64)
theorem mX:∀(n:Nat) (h:List Int) (b:List UInt8),h.length=8→(runM h n b).length=8
 |0,h,b,hl=>hl
 |n+1,h,b,hl=>mX n _ _ (pO h _ hl)
theorem j4 {P:Program} {md:Region.Mode} {ops:Array Oper} {Q:Exit→Act→World→Prop} {S S':World→Prop} (h:∀w,S' w→S w):
  ∀(fuel:Nat) (listed:Array Bool) (a:Act) (w:World),wpAnyH P md ops Q S' fuel listed a w→wpAnyH P md ops Q S fuel listed a w
 |0,_,_,_,hw=>hw
 |fuel+1,_,_,_,hw=>⟨hw.1,fun i hi=>wpOp_mono (fun _ _ h'=>⟨h _ h'.1,j4 h fuel _ _ _ h'.2⟩) (hw.2 i hi)⟩
open Go
theorem dz {P:Program} {ops:Array Oper} {Q:Exit→Act→World→Prop} {md:Region.Mode} {S:World→Prop} (i:Nat) {oi:Oper} {v:Value} {fuel:Nat} {listed l':Array Bool} {a a':Act} {w:World}
  (hi:ops[i]? =some oi:=by simp only[List.getElem?_toArray,List.getElem?_cons_succ,List.getElem?_cons_zero];rfl)
  (hs:Region.noSelect ops=true:=by kernel_rfl) (hf:Region.free md ops listed i=true:=by kernel_rfl) (hr:(Region.ready md ops listed).contains i=true:=by kernel_rfl)
  (hQ:∀c a w,Q (.panic c) (a.put oi.dst v) w→Q (.panic c) a w:=by exact fun _ _ _ h=>h)
  (hw:Region.wanted oi (yielded ops a.tmps)=true:=by rfl)
  (hy:∀w,S w→(execOp a.eval oi).run P w= .ok (.value v) w:=by intro w hSw;(try dsimp only at hSw);go_simp;(try with_reducible rfl))
  (hl:listed.setIfInBounds i true=l':=by(try simp only[List.setIfInBounds_toArray,List.set_cons_zero,List.set_cons_succ]);rfl)
  (ha:a.put oi.dst v=a':=by(try simp only[Act.put,List.setIfInBounds_toArray,List.set_cons_zero,List.set_cons_succ]);rfl)
  (hS:S w) (h:wpAnyH P md ops Q S fuel l' a' w):wpAnyH P md ops Q S (fuel+1) listed a w:=
 wpAnyH_take hi hs hf hr hQ (Or.inl ⟨hw,hy⟩) hS (by rw[hl,ha];exact h)
theorem uW {P:Program} {ops:Array Oper} {Q:Exit→Act→World→Prop} {md:Region.Mode} {S:World→Prop} (i:Nat) {o:Oper} {fuel:Nat} {listed:Array Bool} {a:Act} {w:World}
  (ho:ops[i]? =some o:=by simp only[List.getElem?_toArray,List.getElem?_cons_succ,List.getElem?_cons_zero];rfl) (hr:Region.ready md ops listed=[i]:=by kernel_rfl)
  (h:∀K':Act→World→Prop,Shut (∀a w,S w→(S w→wpAnyH P md ops Q S fuel (listed.setIfInBounds i true) a w)→K' a w)→if Region.wanted o (yielded ops a.tmps)=true then Oper.wp P o a w K' Q else K' (a.put o.dst undef) w):wpAnyH P md ops Q S (fuel+1) listed a w:=
 wpAnyH_ready hr (by simp) (AllReadyH.cons ho h AllReadyH.nil)
end Go.Proofs.YtmabllemjkcobaaGreatDoor
