/- package sha: rotated words, loaded words. SHA-256, plainly, in numbers. A drawn region taken by hand: the condition S may be made stronger on the way. -/
import Derived.Test.YtjnhnlabpccgjaaGreatM16
import Derived.Test.YtjnhnlabpccgjaaGreatM08
import Derived.Test.YtjnhnlabpccgjaaGreatM01
import Derived.Deep.RegionHeld3
namespace Go.Proofs.YtjnhnlabpccgjaaGreat
open Go.ChangeShapes Go.WideShapes Go.ChangeAt Go.RowKit
set_option linter.unusedVariables false
set_option linter.unusedSimpArgs false
abbrev sP (a b:Int):Int:=bits .or .u32 a b
abbrev zh (a b:Int):Int:=bits .xor .u32 a b
abbrev NW (a b:Int):Int:=bits .and .u32 a b
def jA (x:Int) (s:Nat):Int:=sP (x*2^s%4294967296) (x/2^(32-s))
theorem lJ (x k:Int) (s:Nat) (w:World) (hk:bits .and .u64 (IntKind.u64.wrap k) 31=(s:Int)) (h0:0<s) (h1:s<32):Calls Tryz.prog 226 #[.int .u32 x, .int .i64 k] w fun e w'=>e= .returned (.int .u32 (jA x s))∧w=w':=by
 have e1:(0:Int)≤(s:Int):=by omega
 have e2:(s:Int)≤32:=by omega
 have e3:IntKind.u64.wrap (32-(s:Int))=32-(s:Int):=by simp[IntKind.wrap,IntKind.bits,IntKind.signed];omega
 have e4:(0:Int)≤32-(s:Int):=by omega
 have e5:32-(s:Int)≤32:=by omega
 go_enter Tryz.func226,Tryz.ntmps226
 go_wp2
 go_ret
 exact⟨rfl,rfl⟩
def wU (a b c d:UInt8):Int:=sP (sP (sP (sP 0 ((d.toNat:Int)%4294967296)) ((c.toNat:Int)%4294967296*256%4294967296)) ((b.toNat:Int)%4294967296*65536%4294967296)) ((a.toNat:Int)%4294967296*16777216%4294967296)
theorem NY {S:Nat→Prop} (ad:Option Addr) (n c:Nat) (bs:List UInt8) (w:World) (hr:ah S w ad n (bs.map bv)) (hn:4≤n):Calls Tryz.prog 225 #[.slice ad n c] w fun e w'=>e= .returned (.int .u32 (wU (bs.getD 0 0) (bs.getD 1 0) (bs.getD 2 0) (bs.getD 3 0)))∧w=w':=by
 obtain⟨b,off,rfl,-,-,hc⟩:=hr.at_ (by omega)
 have hl:bs.length=n:=by simpa using hr.length
 have hm:=hr.small
 unfold maxLen at hm
 have q:∀i,i<4→w.cell? ⟨b,off+i,none⟩=some (bv (bs.getD i 0)):=fun i hi=>by
  rw[hc i (by omega),List.getElem?_map,List.getElem?_eq_getElem (by omega),List.getD_eq_getElem?_getD,List.getElem?_eq_getElem (by omega)]
  rfl
 have q0:w.cell? ⟨b,off,none⟩=some (.int .u8 ((bs.getD 0 0).toNat:Int)):=q 0 (by omega)
 have q1:w.cell? ⟨b,off+1,none⟩=some (.int .u8 ((bs.getD 1 0).toNat:Int)):=q 1 (by omega)
 have q2:w.cell? ⟨b,off+2,none⟩=some (.int .u8 ((bs.getD 2 0).toNat:Int)):=q 2 (by omega)
 have q3:w.cell? ⟨b,off+3,none⟩=some (.int .u8 ((bs.getD 3 0).toNat:Int)):=q 3 (by omega)
 generalize bs.getD 0 0=b0 at*
 generalize bs.getD 1 0=b1 at*
 generalize bs.getD 2 0=b2 at*
 generalize bs.getD 3 0=b3 at*
 have d3:((n:Int)==3)=false:=by simp;omega
 have d2:((n:Int)==2)=false:=by simp;omega
 have d1:((n:Int)==1)=false:=by simp;omega
 have d0:((n:Int)==0)=false:=by simp;omega
 have l3:(3:Int)<(n:Int):=by omega
 have l2:(2:Int)<(n:Int):=by omega
 have l1:(1:Int)<(n:Int):=by omega
 have l0:(0:Int)<(n:Int):=by omega
 clear q hc hr
 go_enter Tryz.func225,Tryz.ntmps225
 go_wp2
 go_ret
 exact⟨rfl,rfl⟩
def kM:List Int:=[1116352408,1899447441,3049323471,3921009573,961987163,1508970993,2453635748,2870763221,3624381080,310598401,607225278,1426881987,1925078388,2162078206,2614888103,3248222580,3835390401,4022224774,264347078,604807628,770255983,1249150122,1555081692,1996064986,2554220882,2821834349,2952996808,3210313671,3336571891,3584528711,113926993,338241895,666307205,773529912,1294757372,1396182291,1695183700,1986661051,2177026350,2456956037,2730485921,2820302411,3259730800,3345764771,3516065817,3600352804,4094571909,275423344,430227734,506948616,659060556,883997877,958139571,1322822218,1537002063,1747873779,1955562222,2024104815,2227730452,2361852424,2428436474,2756734187,3204031479,3329325298]
def rz:List Int:=[1779033703,3144134277,1013904242,2773480762,1359893119,2600822924,528734635,1541459225]
abbrev dJ (z:Int):Value:= .int .u32 z
abbrev DW (z:Int):Int:=z%4294967296
def rA (b:List UInt8) (i:Nat):Int:=wU ((b.drop (i*4)).getD 0 0) ((b.drop (i*4)).getD 1 0) ((b.drop (i*4)).getD 2 0) ((b.drop (i*4)).getD 3 0)
def sg0 (x:Int):Int:=zh (zh (jA x 25) (jA x 14)) (x/8)
def sg1 (x:Int):Int:=zh (zh (jA x 15) (jA x 13)) (x/1024)
def wV (ws:List Int):Int:=DW (DW (DW (ws.getD (ws.length-16) 0+sg0 (ws.getD (ws.length-15) 0))+ws.getD (ws.length-7) 0)+sg1 (ws.getD (ws.length-2) 0))
def dW (b:List UInt8):Nat→List Int
 |0=>(List.range 16).map (rA b)
 |n+1=>dW b n++[wV (dW b n)]
theorem nC (b:List UInt8):∀n,(dW b n).length=16+n
 |0=>by simp[dW]
 |n+1=>by unfold dW;rw[List.length_append,nC b n];simp;omega
structure rY where
 a:Int
 c:Int
 d:Int
 e:Int
 f:Int
 g:Int
 h:Int
 j:Int
def bnot (x:Int):Int:=bits .xor .u32 (if IntKind.u32.signed=true then-1 else IntKind.u32.max) x
def tM (s:rY) (k w:Int):Int:=DW (s.j+zh (zh (jA s.f 26) (jA s.f 21)) (jA s.f 7)+zh (NW s.f s.g) (NW (bnot s.f) s.h)+k+w)
def uM (s:rY):Int:=DW (zh (zh (jA s.a 30) (jA s.a 19)) (jA s.a 10)+zh (zh (NW s.a s.c) (NW s.a s.d)) (NW s.c s.d))
def tu (s:rY) (k w:Int):rY:=⟨DW (tM s k w+uM s),s.a,s.c,s.d,DW (s.e+tM s k w),s.f,s.g,s.h⟩
def kP (s:rY) (ws:List Int):Nat→rY
 |0=>s
 |n+1=>tu (kP s ws n) (kM.getD n 0) (ws.getD n 0)
def rY.list (s:rY):List Int:=[s.a,s.c,s.d,s.e,s.f,s.g,s.h,s.j]
def rY.of (h:List Int):rY:=⟨h.getD 0 0,h.getD 1 0,h.getD 2 0,h.getD 3 0,h.getD 4 0,h.getD 5 0,h.getD 6 0,h.getD 7 0⟩
def fF (h:List Int) (b:List UInt8):List Int:=List.zipWith (fun x y=>DW (x+y)) h (kP (rY.of h) (dW b 48) 64).list
theorem jP (h:List Int) (b:List UInt8) (hl:h.length=8):(fF h b).length=8:=by unfold fF;rw[List.length_zipWith,hl];rfl
def runM (h:List Int):Nat→List UInt8→List Int
 |0,_=>h
 |n+1,b=>runM (fF h (b.take 64)) n (b.drop 64)
theorem lT:∀(n:Nat) (h:List Int) (b:List UInt8),h.length=8→(runM h n b).length=8
 |0,h,b,hl=>hl
 |n+1,h,b,hl=>lT n _ _ (jP h _ hl)
theorem rC {P:Program} {md:Region.Mode} {ops:Array Oper} {Q:Exit→Act→World→Prop} {S S':World→Prop} (h:∀w,S' w→S w):
  ∀(fuel:Nat) (listed:Array Bool) (a:Act) (w:World),wpAnyH P md ops Q S' fuel listed a w→wpAnyH P md ops Q S fuel listed a w
 |0,_,_,_,hw=>hw
 |fuel+1,_,_,_,hw=>⟨hw.1,fun i hi=>wpOp_mono (fun _ _ h'=>⟨h _ h'.1,rC h fuel _ _ _ h'.2⟩) (hw.2 i hi)⟩
open Go
theorem fA {P:Program} {ops:Array Oper} {Q:Exit→Act→World→Prop} {md:Region.Mode} {S:World→Prop} (i:Nat) {oi:Oper} {v:Value} {fuel:Nat} {listed l':Array Bool} {a a':Act} {w:World}
  (hS:S w) (h:wpAnyH P md ops Q S fuel l' a' w)
  (hi:ops[i]? =some oi:=by simp only[List.getElem?_toArray,List.getElem?_cons_succ,List.getElem?_cons_zero];rfl)
  (hs:Region.noSelect ops=true:=by kernel_rfl) (hf:Region.free md ops listed i=true:=by kernel_rfl) (hr:(Region.ready md ops listed).contains i=true:=by kernel_rfl)
  (hQ:∀c a w,Q (.panic c) (a.put oi.dst v) w→Q (.panic c) a w:=by exact fun _ _ _ h=>h)
  (hw:Region.wanted oi (yielded ops a.tmps)=true:=by rfl)
  (hy:∀w,S w→(execOp a.eval oi).run P w= .ok (.value v) w:=by intro w hSw;(try dsimp only at hSw);go_simp;(try with_reducible rfl))
  (hl:listed.setIfInBounds i true=l':=by(try simp only[List.setIfInBounds_toArray,List.set_cons_zero,List.set_cons_succ]);rfl)
  (ha:a.put oi.dst v=a':=by(try simp only[Act.put,List.setIfInBounds_toArray,List.set_cons_zero,List.set_cons_succ]);rfl)
  :wpAnyH P md ops Q S (fuel+1) listed a w:=
 wpAnyH_take hi hs hf hr hQ (Or.inl ⟨hw,hy⟩) hS (by rw[hl,ha];exact h)
theorem zi {P:Program} {ops:Array Oper} {Q:Exit→Act→World→Prop} {md:Region.Mode} {S:World→Prop} (i:Nat) {o:Oper} {fuel:Nat} {listed:Array Bool} {a:Act} {w:World}
  (h:∀K':Act→World→Prop,Shut (∀a w,S w→(S w→wpAnyH P md ops Q S fuel (listed.setIfInBounds i true) a w)→K' a w)→if Region.wanted o (yielded ops a.tmps)=true then Oper.wp P o a w K' Q else K' (a.put o.dst undef) w)
  (ho:ops[i]? =some o:=by simp only[List.getElem?_toArray,List.getElem?_cons_succ,List.getElem?_cons_zero];rfl) (hr:Region.ready md ops listed=[i]:=by kernel_rfl):wpAnyH P md ops Q S (fuel+1) listed a w:=
 wpAnyH_ready hr (by simp) (AllReadyH.cons ho h AllReadyH.nil)
theorem zl {P:Program} {ops:Array Oper} {Q:Exit→Act→World→Prop} {md:Region.Mode} {S:World→Prop} {i:Nat} {fuel:Nat} {listed l':Array Bool} {a a':Act} {w:World} {K:Act→World→Prop}
  (hK:Shut (∀a w,S w→(S w→wpAnyH P md ops Q S fuel (listed.setIfInBounds i true) a w)→K a w)) (hS:S w) (h:S w→wpAnyH P md ops Q S fuel l' a' w)
  (hl:listed.setIfInBounds i true=l':=by(try simp only[List.setIfInBounds_toArray,List.set_cons_zero,List.set_cons_succ]);rfl)
  (ha:a=a':=by(try simp only[Act.put,List.setIfInBounds_toArray,List.set_cons_zero,List.set_cons_succ]);rfl):K a w:=by
 subst hl ha
 exact hK a w hS h
theorem Ud {P:Program} {ops:Array Oper} {Q:Exit→Act→World→Prop} {md:Region.Mode} {S:World→Prop} {fuel:Nat} {listed:Array Bool} {a:Act} {w:World} (h:Q .normal a w) (hr:Region.ready md ops listed=[]:=by kernel_rfl):wpAnyH P md ops (NoPanic Q) S fuel listed a w:=
 wpAnyH_done hr (NoPanic.normal h) _
theorem Ue {P:Program} {ops:Array Oper} {Q:Exit→Act→World→Prop} (S:World→Prop) {id:Nat} {a:Act} {w:World} (hS:S w.drew)
  (h:S w.drew→wpAnyH P .any ops (NoPanic Q) S ops.size (Array.replicate ops.size false) a w.drew) (hm:P.follows .mixedOrders=true:=by kernel_rfl):(Code.region id ops true).wp P Q a w:=
 wp_region_noPanic (wp_region_held_drew hm hS h)
end Go.Proofs.YtjnhnlabpccgjaaGreat
