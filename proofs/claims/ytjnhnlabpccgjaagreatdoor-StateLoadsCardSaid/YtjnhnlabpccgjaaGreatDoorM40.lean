/- A -/
import Derived.Test.YtjnhnlabpccgjaaGreatDoorM23
import Derived.Lib.SlBytesConst
import Derived.BigQuiet
import Derived.Deep.QuietTactic
import Derived.Test.YtjnhnlabpccgjaaGreatDoorM19
import Derived.Test.YtjnhnlabpccgjaaGreatDoorM21
import Derived.Test.YtjnhnlabpccgjaaGreatDoorM20
import Derived.Lib.SliceRun
import Derived.Test.YtjnhnlabpccgjaaGreatDoorM38
import Derived.Test.YtjnhnlabpccgjaaGreatDoorM31
import Derived.Test.YtjnhnlabpccgjaaGreatDoorM01
import Derived.Test.YtjnhnlabpccgjaaGreatDoorM39
import Derived.Test.YtjnhnlabpccgjaaGreatDoorM04
set_option maxRecDepth 100000
set_option maxHeartbeats 64000000
set_option linter.all false
namespace Go.Proofs.YtjnhnlabpccgjaaGreatDoor
open Go.ChangeShapes Go.WideShapes Go.ChangeAt Go.RowKit
abbrev opA(kind:Int)(path ig:ByteArray)(fd at_ n aF snap:Int)(da:Option Addr)(dl dc:Nat):Value:= .agg #[.int .i64 kind,.string path,.string ig,.int .i64 fd,.int .i64 at_,.int .i64 n,.int .u64 aF,.int .i64 snap,.slice da dl dc]
def DoE(W:World)(o:Mark)(i:Nat)(w:World)(p:Nat)(c:Int)(r:su)(M':dQ)(e:Ending)(w':World):Prop:=
 ∃o',DC o' r e w'∧Step o (Five i) w o' w'∧Hy W o' i w' p (c+1) M'
structure vT(o:Mark)(w:World)(g:Nat)(r:su)(da la:Option Addr)(dc lc:Nat):Prop where
 own:o g=0
 low:g<w.heap.size
 at_:w.heap[g]? =some (.cells (jd r da la dc lc) 41 (0,0))
 dcap:r.data.length≤dc
 lcap:r.names.length≤lc
 data:ah (Free o w) w da r.data.length (r.data.map bv)
 names:aT (Free o w) w la r.names.length (r.names.map strOf)
abbrev reZ:Array Value:= #[.int .i64 0,.int .i64 0,.slice none 0 0,.slice none 0 0,.int .i64 0,.int .i64 0,.int .i64 0,.int .i64 0,.int .u64 0,.bool false]
section
variable{W w w' w4 w5:World}{o o':Mark}{g:Nat}{r:su}{da la:Option Addr}{dc lc:Nat}
theorem vT.step{I:Nat→Prop}(h:vT o w g r da la dc lc)(h0:¬I 0)(hs:Step o I w o' w'):vT o' w' g r da la dc lc:=
 ⟨(hs.old g h.low).trans h.own,Nat.lt_of_lt_of_le h.low hs.keep.size,(hs.block h.low (by rw[h.own];exact h0)).trans h.at_,h.dcap,h.lcap,h.data.free h0 hs,⟨h.names.row.free h0 hs,h.names.short⟩⟩
theorem vT.five{i:Nat}(h:vT o w g r da la dc lc)(hi:0<i)(hs:Step o (Five i) w o' w'):vT o' w' g r da la dc lc:=h.step (fun e=>by have:=e.1;omega) hs
theorem vT.grow(h:vT o w g r da la dc lc)(hM:Marks W o w)(hb:Below w.heap.size w w'):vT o w' g r da la dc lc:=h.step (I:=fun _=>False) (fun e=>e) (Step.grow hM hb)
theorem CG(hM:Marks W o w4)(h1:r.data.length≤dc)(h2:r.names.length≤lc)(h3:ah (Free o w4) w4 da r.data.length (r.data.map bv))(h4:aT (Free o w4) w4 la r.names.length (r.names.map strOf))
  (hs:jH (w4.alloc (.cells reZ 41)) w4.heap.size (jd r da la dc lc) 41 w5):vT o w5 w4.heap.size r da la dc lc∧Below w4.heap.size w4 w5:=by
 have hb:=hs.below (wall w4 (.cells reZ 41)) acu;have hlt:w4.heap.size<w5.heap.size:=(iL.1 hs.1).1;have hst:Step o (fun _=>False) w4 o w5:=Step.grow hM hb;exact⟨⟨Decidable.byContradiction fun h0=>by have:=(hM.new _ h0).2;omega,hlt,hs.1,h1,h2,h3.free (fun e=>e) hst,⟨h4.row.free (fun e=>e) hst,h4.short⟩⟩,hb⟩
theorem vT.er(h:vT o w g r da la dc lc):w.cell? ⟨g,0,none⟩=some (.int .i64 r.er):=by simp[World.cell?,h.at_,jd]
theorem vT.n(h:vT o w g r da la dc lc):w.cell? ⟨g,1,none⟩=some (.int .i64 r.n):=by simp[World.cell?,h.at_,jd]
theorem VI(vs:List Value)(t:TypeId)(m:Nat×Nat)(hm:vs.length≤maxLen):ah (fun x=>x=w.heap.size) (w.alloc (.cells vs.toArray t m)) (some ⟨w.heap.size,0,none⟩) vs.length vs:=by
 refine⟨rfl,hm,fun _=>⟨_,0,rfl,rfl,by simp,fun i hi=> ?_⟩⟩;have hh:(w.alloc (.cells vs.toArray t m)).heap[w.heap.size]? =some (.cells vs.toArray t m):=(MapKept.heap_alloc w _).1;simp only[World.cell?,hh];simp
end
structure OpV(q:Nat)(o:Mark)(w:World)(g:Nat)(x:jK)(da:Option Addr)(dc:Nat):Prop where
 own:o g=q
 low:g<w.heap.size
 at_:w.heap[g]? =some (.cells (opC x da dc) 30 (0,0))
section
variable{W w w' w4 w5:World}{o o':Mark}{q g i p:Nat}{c:Int}{x:jK}{M:dQ}{da:Option Addr}{dc:Nat}
theorem OpV.step{I:Nat→Prop}(h:OpV q o w g x da dc)(h0:¬I q)(hs:Step o I w o' w'):OpV q o' w' g x da dc:=
 ⟨(hs.old g h.low).trans h.own,Nat.lt_of_lt_of_le h.low hs.keep.size,(hs.block h.low (by rw[h.own];exact h0)).trans h.at_⟩
theorem OpV.grow(h:OpV q o w g x da dc)(hM:Marks W o w)(hb:Below w.heap.size w w'):OpV q o w' g x da dc:=h.step (I:=fun _=>False) (fun e=>e) (Step.grow hM hb)
theorem OpV.cells(h:OpV q o w g x da dc):w.cell? ⟨g,0,none⟩=some (.int .i64 x.kind)∧w.cell? ⟨g,1,none⟩=some (.string (strOf x.path))∧w.cell? ⟨g,2,none⟩=some (.string (strOf x.ig))∧w.cell? ⟨g,3,none⟩=some (.int .i64 x.fd)∧w.cell? ⟨g,4,none⟩=some (.int .i64 x.at_)∧w.cell? ⟨g,5,none⟩=some (.int .i64 x.n)∧w.cell? ⟨g,6,none⟩=some (.int .u64 x.aF)∧w.cell? ⟨g,7,none⟩=some (.int .i64 x.snap)∧w.cell? ⟨g,8,none⟩=some (.slice da x.data.length dc)∧w.frozen? ⟨g,6,none⟩=false:=by
 have:=h.at_;unfold opC at this;refine⟨?_,?_,?_,?_,?_,?_,?_,?_,?_,?_⟩<;>simp[World.cell?,World.frozen?,this]
theorem Hy.one(h:Hy W o i w p c M)(hq:q≠0∧(q<i∨i+2<q))(hs:Step o (fun m=>m=q) w o' w'):Hy W o' i w' p c M:=
 ⟨h.st.step (fun e=>by omega) (fun e=>by omega) (fun e=>by omega) (fun e=>by omega) hs,h.marks.step (fun e=>by omega) hs,h.ok⟩
theorem vT.one{r:su}{la:Option Addr}{lc:Nat}(h:vT o w g r da la dc lc)(hq:q≠0)(hs:Step o (fun m=>m=q) w o' w'):vT o' w' g r da la dc lc:=h.step (fun e=>hq e.symm) hs
end
section
variable{W w:World}{o:Mark}{i j k p s:Nat}{S:lN}
def VJ(M:dQ):dQ:=⟨aV M.t,M.s,M.now,fun _=>none⟩
theorem fQ.settled{c:Int}{M:dQ}(h:fQ c M):fQ c (VJ M):=⟨h.t.aV,h.s,h.next,h.now,fun n f hf=>by cases hf⟩
end
section
variable{W w:World}{o:Mark}{i j k p:Nat}{M:dQ}
end
section
variable{W w:World}{o:Mark}{i j k p:Nat}{M:dQ}
end
section
variable{W w:World}{o:Mark}{i j k p:Nat}{M:dQ}
end
structure KI(W:World)(o:Mark)(i:Nat)(w:World)(p q:Nat)(c:Int)(M:dQ):Prop where
 s:Hy W o i w p c M
 r:j_ o (i+5) w q M
section
variable{W w w':World}{o o':Mark}{i p q:Nat}{c:Int}{M M':dQ}
theorem KI.grow(h:KI W o i w p q c M)(hb:Below w.heap.size w w'):KI W o i w' p q c M:=⟨h.s.grow hb,h.r.grow h.s.marks hb⟩
end
theorem KJ(T:aA)(j:Int):jf (aV T) j≠0:=by
 unfold aV;refine yc _ T j ?_;by_cases h:j∈kX T
 ·exact .inl h
 ·right;have hn:aj j T=none:=iP.2 fun q hq e=>h (by unfold kX;exact List.mem_map.2 ⟨q,hq,e⟩);unfold jf;rw[hn];decide
theorem En:∀(L:List Int) (T:aA),(∀id,jf T id≠0)→L.foldl (fun S id=>(dO S id).2) T=T
 |[],_,_=>rfl
 |a::r,T,h=>by
  rw[List.foldl_cons];have e:(dO T a).2=T:=by unfold dO;exact if_neg (h a)
  rw[e];exact En r T h
theorem zG(T:aA):aV (aV T)=aV T:=En _ _ (KJ T)
section
variable{W w:World}{o:Mark}{i j k p q:Nat}{c:Int}{M:dQ}
end
def VK:jK:=⟨1,[47,97],[],0,0,0,0,0,[]⟩
def VL:jK:=⟨5,[],[],0,0,0,0,0,[120,121,122]⟩
def VN:jK:=⟨6,[],[],0,0,0,9,0,[]⟩
def VO:jK:=⟨8,[47,97],[],0,0,0,0,0,[]⟩
def O4:su:=(fE Bg VK).1
def O5:dQ:=(fE Bg VK).2
def VP:su:=(fE O5 VL).1
def O6:dQ:=(fE O5 VL).2
def VQ:su:=(fE O6 VN).1
def O7:dQ:=(fE O6 VN).2
def VR:su:=(fE O7 VO).1
def k14s4:dQ:=(fE O7 VO).2
theorem k14e1:fE Bg VK=(O4,O5):=rfl
theorem k14e2:fE O5 VL=(VP,O6):=rfl
theorem k14e3:fE O6 VN=(VQ,O7):=rfl
theorem k14e4:fE O7 VO=(VR,k14s4):=rfl
theorem k14f1:O4.er=0:=by kernel_rfl
theorem k14f2:O4.n=0:=by kernel_rfl
theorem k14f3:VP.n=3:=by kernel_rfl
theorem k14f4:VQ.er=0:=by kernel_rfl
theorem k14f5:VR.er=28:=by kernel_rfl
theorem Ip(x:jK)(h:x=VK∨x=VL∨x=VN∨x=VO):nN x:=by
 rcases h with rfl|rfl|rfl|rfl<;>exact MK (by decide) (by decide) (by decide) (by decide) (by decide) (by decide) (by decide) (by decide) (by decide)
def bQ(n lo hi:Int):Int:=lo+n%(hi-lo+1)
theorem nR(n lo hi:Int)(h:lo≤hi):lo≤bQ n lo hi∧bQ n lo hi≤hi:=by
 unfold bQ;have h1:=Int.emod_nonneg n (show hi-lo+1≠0 by omega);have h2:=Int.emod_lt_of_pos n (show 0<hi-lo+1 by omega);omega
theorem RX{n:Int}(h:(Lit.int .i64 n).wf=true): -9223372036854775808≤n∧n≤9223372036854775807:=by
 simp[Lit.wf,IntKind.min,IntKind.max,IntKind.signed,IntKind.bits]at h;omega
theorem nS(n lo hi:Int)(w:World)(hn:(Lit.int .i64 n).wf=true)(h1:0≤lo)(h2:lo≤hi)(h3:hi≤1099511627776):
  Calls Tryz.prog 16 #[.int .i64 n,.int .i64 lo,.int .i64 hi] w fun e w'=>e= .returned (.int .i64 (bQ n lo hi))∧w=w':=by
 obtain⟨hw1,hw2⟩:=RX hn;clear hn;have t1:=Int.tmod_lt_of_pos n (show 0<hi-lo+1 by omega);have t2:=Int.lt_tmod_of_pos n (show 0<hi-lo+1 by omega);have t3:=Int.emod_nonneg n (show hi-lo+1≠0 by omega);have t4:=Int.emod_lt_of_pos n (show 0<hi-lo+1 by omega);by_cases hn:0≤n
 ·have hx:¬n%(hi-lo+1)<0:=by omega
  go_enter Tryz.func16,Tryz.ntmps16;go_wp2;go_ret;exact⟨fI (by unfold bQ;rfl),rfl⟩
 ·have hE:n%(hi-lo+1)=if n.tmod (hi-lo+1)<0 then n.tmod (hi-lo+1)+(hi-lo+1)else n.tmod (hi-lo+1):=by
   have h5:=Int.emod_add_mul_ediv n (hi-lo+1);have h6:=Int.tmod_add_mul_tdiv n (hi-lo+1);have h7:(n.tmod (hi-lo+1))%(hi-lo+1)=n%(hi-lo+1):=by
    have h8:n=n.tmod (hi-lo+1)+(hi-lo+1)*n.tdiv (hi-lo+1):=by omega
    rw[←Int.add_mul_emod_self_left (n.tmod (hi-lo+1)) (hi-lo+1) (n.tdiv (hi-lo+1)),←h8]
   split
   ·rw[←h7,←Int.add_emod_right,Int.emod_eq_of_lt (by omega) (by omega)]
   ·rw[←h7,Int.emod_eq_of_lt (by omega) (by omega)]
  have HE:=acr hE;clear hE;by_cases ht:n.tmod (hi-lo+1)<0
  ·go_enter Tryz.func16,Tryz.ntmps16;go_wp2;go_ret;exact⟨fI (by unfold bQ;rw[HE.o,if_pos ht];omega),rfl⟩
  ·go_enter Tryz.func16,Tryz.ntmps16;go_wp2;go_ret;exact⟨fI (by unfold bQ;rw[HE.o,if_neg (by omega)]),rfl⟩
def gM:List (List UInt8):=[[47,97],[47,98],[47,99],[47,97,47,97],[47,97,47,98],[47,98,47,97],[47,98,47,98,47,97],[47],[47,99,47,97],[47,98,47,98],[47,65],[97],[47,97,47,47,98],[47,97,47]]
def YV(w:World)(e:Ending)(w':World):Prop:=∃s,s∈gM∧e= .returned (.string (strOf s))∧Below w.heap.size w w'
theorem KL(z:Int)(hz:(Lit.int .i64 z).wf=true)(w:World):Calls Tryz.prog 39 #[.int .i64 z] w (YV w):=by
 obtain⟨v,hv⟩:∃v,v=bQ z 0 1048576:=⟨_,rfl⟩;have hb:=nR z 0 1048576 (by omega);have HW:=acr (nS z 0 1048576 (w.alloc (.cells #[.string ⟨#[47,97]⟩,.string ⟨#[47,98]⟩,.string ⟨#[47,99]⟩,.string ⟨#[47,97,47,97]⟩,.string ⟨#[47,97,47,98]⟩,.string ⟨#[47,98,47,97]⟩,.string ⟨#[47,98,47,98,47,97]⟩,.string ⟨#[47]⟩,.string ⟨#[47,99,47,97]⟩,.string ⟨#[47,98,47,98]⟩,.string ⟨#[47,65]⟩,.string ⟨#[97]⟩,.string ⟨#[47,97,47,47,98]⟩,.string ⟨#[47,97,47]⟩] 9)) hz (by omega) (by omega) (by omega));rw[←hv]at hb HW;clear hv;obtain⟨k,rfl⟩:∃k:Nat,v=k:=⟨v.toNat,by omega⟩;obtain⟨q,hq⟩:∃q,q=k%14:=⟨_,rfl⟩;have h2:(k:Int)%14=(q:Int):=by rw[hq];omega
 have h1:(k:Int).tmod 14=(q:Int):=by rw[Int.tmod_eq_emod_of_nonneg (by omega)];exact h2
 have hlt:q<14:=by rw[hq];omega
 clear hq;rcases (show q=0∨q=1∨q=2∨q=3∨q=4∨q=5∨q=6∨q=7∨q=8∨q=9∨q=10∨q=11∨q=12∨q=13 by omega)with rfl|rfl|rfl|rfl|rfl|rfl|rfl|rfl|rfl|rfl|rfl|rfl|rfl|rfl
 ·go_enter aa9,aa5;go_wp2_with fail;refine HW.o.mono ?_;rintro e w1 ⟨rfl,rfl⟩;clear HW;go_wp2_with fail;go_ret;exact⟨[47,97],by simp[gM],rfl,acv.alloc acu _⟩
 ·go_enter aa9,aa5;go_wp2_with fail;refine HW.o.mono ?_;rintro e w1 ⟨rfl,rfl⟩;clear HW;go_wp2_with fail;go_ret;exact⟨[47,98],by simp[gM],rfl,acv.alloc acu _⟩
 ·go_enter aa9,aa5;go_wp2_with fail;refine HW.o.mono ?_;rintro e w1 ⟨rfl,rfl⟩;clear HW;go_wp2_with fail;go_ret;exact⟨[47,99],by simp[gM],rfl,acv.alloc acu _⟩
 ·go_enter aa9,aa5;go_wp2_with fail;refine HW.o.mono ?_;rintro e w1 ⟨rfl,rfl⟩;clear HW;go_wp2_with fail;go_ret;exact⟨[47,97,47,97],by simp[gM],rfl,acv.alloc acu _⟩
 ·go_enter aa9,aa5;go_wp2_with fail;refine HW.o.mono ?_;rintro e w1 ⟨rfl,rfl⟩;clear HW;go_wp2_with fail;go_ret;exact⟨[47,97,47,98],by simp[gM],rfl,acv.alloc acu _⟩
 ·go_enter aa9,aa5;go_wp2_with fail;refine HW.o.mono ?_;rintro e w1 ⟨rfl,rfl⟩;clear HW;go_wp2_with fail;go_ret;exact⟨[47,98,47,97],by simp[gM],rfl,acv.alloc acu _⟩
 ·go_enter aa9,aa5;go_wp2_with fail;refine HW.o.mono ?_;rintro e w1 ⟨rfl,rfl⟩;clear HW;go_wp2_with fail;go_ret;exact⟨[47,98,47,98,47,97],by simp[gM],rfl,acv.alloc acu _⟩
 ·go_enter aa9,aa5;go_wp2_with fail;refine HW.o.mono ?_;rintro e w1 ⟨rfl,rfl⟩;clear HW;go_wp2_with fail;go_ret;exact⟨[47],by simp[gM],rfl,acv.alloc acu _⟩
 ·go_enter aa9,aa5;go_wp2_with fail;refine HW.o.mono ?_;rintro e w1 ⟨rfl,rfl⟩;clear HW;go_wp2_with fail;go_ret;exact⟨[47,99,47,97],by simp[gM],rfl,acv.alloc acu _⟩
 ·go_enter aa9,aa5;go_wp2_with fail;refine HW.o.mono ?_;rintro e w1 ⟨rfl,rfl⟩;clear HW;go_wp2_with fail;go_ret;exact⟨[47,98,47,98],by simp[gM],rfl,acv.alloc acu _⟩
 ·go_enter aa9,aa5;go_wp2_with fail;refine HW.o.mono ?_;rintro e w1 ⟨rfl,rfl⟩;clear HW;go_wp2_with fail;go_ret;exact⟨[47,65],by simp[gM],rfl,acv.alloc acu _⟩
 ·go_enter aa9,aa5;go_wp2_with fail;refine HW.o.mono ?_;rintro e w1 ⟨rfl,rfl⟩;clear HW;go_wp2_with fail;go_ret;exact⟨[97],by simp[gM],rfl,acv.alloc acu _⟩
 ·go_enter aa9,aa5;go_wp2_with fail;refine HW.o.mono ?_;rintro e w1 ⟨rfl,rfl⟩;clear HW;go_wp2_with fail;go_ret;exact⟨[47,97,47,47,98],by simp[gM],rfl,acv.alloc acu _⟩
 ·go_enter aa9,aa5;go_wp2_with fail;refine HW.o.mono ?_;rintro e w1 ⟨rfl,rfl⟩;clear HW;go_wp2_with fail;go_ret;exact⟨[47,97,47],by simp[gM],rfl,acv.alloc acu _⟩
theorem Bv{s:List UInt8}(h:s∈gM):s.length≤6:=by
 have:∀s∈gM,s.length≤6:=by decide
 exact this s h
theorem Iq(a:Option Addr)(len cap n:Nat)(hl:len≤cap)(hn:n≤1048576)(hm:len≤maxLen)(w:World):
  Calls Tryz.prog 17 #[.slice a len cap,.int .i64 n] w fun e w'=>e= .returned (.slice a (min len n) cap)∧w=w':=by
 unfold maxLen at hm;by_cases h:n<len
 ·have e1:n≤cap:=by omega
  go_enter Tryz.func17,Tryz.ntmps17;go_wp2;go_ret;rw[show min len n=n by omega];exact⟨rfl,rfl⟩
 ·go_enter Tryz.func17,Tryz.ntmps17;go_wp2;go_ret;rw[show min len n=len by omega];exact⟨rfl,rfl⟩
end Go.Proofs.YtjnhnlabpccgjaaGreatDoor
