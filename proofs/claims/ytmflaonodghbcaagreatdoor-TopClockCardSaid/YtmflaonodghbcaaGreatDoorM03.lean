/- append -/
import Derived.Test.YtmflaonodghbcaaGreatDoorM02
import Derived.Maps.AppendAt
import Derived.Deep.RegionLaw
import Derived.Maps.RangeWalk
set_option maxRecDepth 100000
set_option maxHeartbeats 64000000
set_option linter.all false
namespace Go.Proofs.YtmflaonodghbcaaGreatDoor
open Go.ChangeShapes Go.WideShapes Go.ChangeAt Go.RowKit
theorem bG{w:World}{base:Nat}{e:TypeId}{size:Nat}{v:Value}{n:Nat}{xs:List Value}(h:w.ownsRow base e size v n xs):∃a c,v= .slice a n c∧n≤c:=by
 rcases h.2 with⟨rfl,rfl⟩|⟨g,cap,cur,rfl,_,_,h,_⟩
 ·exact⟨_,_,rfl,Nat.le_refl _⟩
 ·exact⟨_,_,rfl,h⟩
theorem bC{w:World}{base:Nat}{e:TypeId}{size:Nat}{v:Value}{n:Nat}{xs:List Value}(h:w.ownsRow base e size v n xs):∀k,v.ownBlock=some k→base≤k:=by
 intro k hk;rcases h.2 with⟨rfl,_⟩|⟨g,cap,cur,rfl,hg,_⟩
 ·cases hk
 ·cases hk;exact hg
theorem ah.cells{S:Nat→Prop}{w:World}{ad:Addr}{len:Nat}{vs:List Value}(h:ah S w (some ad) len vs):∀j u,vs[j]? =some u→w.cell? (ad.add j)=some u:=by
 intro j u hu;have hl:=h.length;have hj:j<len:=by rw[←hl];exact(aaj.1 hu).1
 obtain⟨b,off,e,_,_,hc⟩:=h.at_ (by omega);simp only[aag]at e;subst e;rw[add_plain,hc j hj,hu]
theorem ah.take{S:Nat→Prop}{w:World}{a:Option Addr}{len:Nat}{vs:List Value}(h:ah S w a len vs)(n:Nat):ah S w a (min len n) (vs.take n):=by
 have hl:=h.length;refine⟨by simp[hl];omega,by have:=h.small;omega,fun h0=> ?_⟩;obtain⟨b,off,e,hS,hb,hc⟩:=h.at_ (by omega);exact⟨b,off,e,hS,hb,fun i hi=>by rw[hc i (by omega),aat,if_pos (by omega)]⟩
theorem ah.drop{S:Nat→Prop}{w:World}{b off len:Nat}{vs:List Value}(h:ah S w (some ⟨b,off,none⟩) len vs)(n:Nat):ah S w (some ⟨b,off+n,none⟩) (len-n) (vs.drop n):=by
 have hl:=h.length;refine⟨by simp[hl],by have:=h.small;omega,fun h0=> ?_⟩;obtain⟨b',off',e,hS,hb,hc⟩:=h.at_ (by omega);simp only[aag,Addr.mk.injEq,and_true]at e;obtain⟨rfl,rfl⟩:=e;exact⟨b,off+n,rfl,hS,hb,fun i hi=>by rw[show off+n+i=off+(n+i)by omega,hc (n+i) (by omega),aby]⟩
theorem ah.zero{S:Nat→Prop}{w:World}(a:Option Addr)(n:Nat)(vs:List Value)(hn:n=0)(hv:vs=[]):ah S w a n vs:=by
 subst hn;subst hv;exact ah.nil _ _ _
theorem ah.mU{w:World}{base:Nat}{e:TypeId}{a:Option Addr}{m n c:Nat}{xs:List Value}(h:w.ownsRow base e 1 (.slice a m c) n xs):m=n∧ah (fun x=>base≤x∧x<w.heap.size) w a n xs:=by
 obtain⟨h1,h2⟩:=h;rcases h2 with⟨h2,rfl⟩|⟨g,cap,cur,h2,hg,hcur,h3,h4,h5,h6⟩
 ·simp only[aaJ]at h2;obtain⟨rfl,rfl,rfl⟩:=h2;obtain rfl:xs=[]:=Pe (by omega);exact⟨rfl,ah.nil _ _ _⟩
 ·simp only[aaJ]at h2;obtain⟨rfl,rfl,rfl⟩:=h2;have hgw:=(uh.1 hcur).1;refine⟨rfl,by omega,by omega,fun h0=>⟨g,0,rfl,⟨hg,hgw⟩,hgw,fun i hi=> ?_⟩⟩;simp only[World.cell?,hcur,Nat.zero_add];rw[←h6,aat,if_pos (show i<m*1 by omega)];simp
theorem Kg.row{F:Nat→Prop}{w:World}{n:Nat}{v:Value}{bs:List UInt8}(h:Kg F w n v bs):∃b c,v= .slice (some ⟨b,0,none⟩) n c∧n≤c∧ah F w (some ⟨b,0,none⟩) n (bs.map bv):=by
 obtain⟨h1,g,cap,cur,rfl,hF,hcur,htk,h2,h3,h4⟩:=h;have hgw:=(uh.1 hcur).1;refine⟨g,cap,rfl,h2,by simpa using h1,by omega,fun h0=>⟨g,0,rfl,hF,hgw,fun i hi=> ?_⟩⟩;simp only[World.cell?,hcur,Nat.zero_add];rw[←htk,aat,if_pos hi];simp
theorem iU(bs:List UInt8):∀u∈bs.map bv,u.oneCell'=true:=by
 intro u hu;obtain⟨x,_,rfl⟩:=List.mem_map.1 hu;rfl
theorem uQ{P:Program}{S:Nat→Prop}{w:World}(base:Nat)(t ty e:TypeId)(i:TypeInfo)(z:Value)(bytes:Nat)(ht:P.underlying t=some (.slice e))(hi:P.info? e=some i)(hz:i.zero=some z)
  (hsize:i.size=1)(hby:i.bytes=bytes)(hzs:z.cells.size=1)(v:Value)(n:Nat)(xs:List Value)(hown:w.ownsRow base e 1 v n xs)
  (A:Option Addr)(m c:Nat)(news:List Value)(hr:ah S w A m news)(h1:∀u∈news,u.oneCell'=true)(h63:n+m≤maxLen)(hbytes:(n+m)*bytes≤140737488355328)(hbase:base≤w.heap.size):
  ∃A' c' w',(Builtin.append_ #[t,t] ty #[v,.slice A m c]).run P w= .ok (.slice A' (n+m) c') w'∧w'.ownsRow base e 1 (.slice A' (n+m) c') (n+m) (xs++news)∧w.grownBy w' v.ownBlock∧
   (Value.slice A' (n+m) c'= .slice none 0 0↔v= .slice none 0 0∧m=0)∧((Value.slice A' (n+m) c').ownBlock=v.ownBlock∨(Value.slice A' (n+m) c').ownBlock=some w.heap.size):=by
 rcases A with _|ad
 ·have hm:m=0:=by
   rcases aaF m with h0|h0
   ·exact h0
   ·obtain⟨_,_,h,_⟩:=hr.at_ h0;cases h
  subst hm;have hn:news=[]:=Pe hr.length;subst hn;obtain⟨A',c',rfl,_⟩:=bG hown;refine⟨A',c',w,?_,by simpa using hown,⟨rfl,rfl,rfl,Nat.le_refl _,fun _ _ _=>rfl⟩,by simp,Or.inl rfl⟩;rcases hown.2 with⟨h2,rfl⟩|⟨g,cap,cur,h2,_,_,hnc,_⟩
  ·simp only[aaJ]at h2;obtain⟨rfl,_,rfl⟩:=h2;simp[Builtin.append_,abH ht,sizeOf,typeInfo,hi,Builtin.lenOf,Builtin.firstCells]
  ·simp only[aaJ]at h2;obtain⟨rfl,_,rfl⟩:=h2;simp[Builtin.append_,abH ht,sizeOf,typeInfo,hi,Builtin.lenOf,Builtin.firstCells,hnc,storeCells]
 ·obtain⟨v',w',hr',h2,h3,h4,h5⟩:=run_append_own_at (P:=P) w base t ty e i z 1 bytes ht hi hz hsize hby hzs (by omega) v n xs hown ad m c news (by simpa using hr.length) hr.cells h1 h63 hbytes hbase;obtain⟨A',c',rfl,_⟩:=bG h2;exact⟨A',c',w',hr',h2,h3,h4,h5⟩
theorem bV{P:Program}{S:Nat→Prop}{w:World}{ops:Array Oper}{rest:List Oper}{o:Oper}{a:Act}{Q:Exit→Act→World→Prop}(hgd:o.guard=none)(s x:Operand)(t:TypeId)
  (ho:o.op= .call {callee:= .builtin .append,args:= #[s,x],argTypes:= #[t,t]})
  (base:Nat)(e:TypeId)(i:TypeInfo)(z:Value)(bytes:Nat)(ht:P.underlying t=some (.slice e))(hi:P.info? e=some i)(hz:i.zero=some z)
  (hsize:i.size=1)(hby:i.bytes=bytes)(hzs:z.cells.size=1)(v:Value)(n:Nat)(xs:List Value)(hs:a.eval s=v)(hown:w.ownsRow base e 1 v n xs)
  (A:Option Addr)(m c:Nat)(news:List Value)(hx:a.eval x= .slice A m c)(hr:ah S w A m news)(h1:∀u∈news,u.oneCell'=true)(h63:n+m≤maxLen)(hbytes:(n+m)*bytes≤140737488355328)(hbase:base≤w.heap.size)
  (h:∀A' c' w',w'.ownsRow base e 1 (.slice A' (n+m) c') (n+m) (xs++news)→w.grownBy w' v.ownBlock→(Value.slice A' (n+m) c'= .slice none 0 0↔v= .slice none 0 0∧m=0)→((Value.slice A' (n+m) c').ownBlock=v.ownBlock∨(Value.slice A' (n+m) c').ownBlock=some w.heap.size)→wpList P ops Q rest (a.put o.dst (.slice A' (n+m) c')) w'):
  wpList P ops Q (o::rest) a w:=by
 refine abI hgd fun K hK=> ?_;obtain⟨A',c',w',hr,h2,h3,h4,h5⟩:=uQ (P:=P) base t o.type e i z bytes ht hi hz hsize hby hzs v n xs hown A m c news hr h1 h63 hbytes hbase;unfold Oper.wp execOp;simp only[ho,resolve,invoke,builtin,abJ,ab5,abF,abO,List.map_cons,abl,hs,hx,hr];exact hK _ _ (h A' c' w' h2 h3 h4 h5)
theorem Cu{P:Program}{S:Nat→Prop}{ops:Array Oper}{o:Oper}{a:Act}{w:World}{K:Act→World→Prop}{Q:Exit→Act→World→Prop}{E:Prop}(hgd:o.guard=none)(s x:Operand)(t:TypeId)
  (ho:o.op= .call {callee:= .builtin .append,args:= #[s,x],argTypes:= #[t,t]})
  (base:Nat)(e:TypeId)(i:TypeInfo)(z:Value)(bytes:Nat)(ht:P.underlying t=some (.slice e))(hi:P.info? e=some i)(hz:i.zero=some z)
  (hsize:i.size=1)(hby:i.bytes=bytes)(hzs:z.cells.size=1)(v:Value)(n:Nat)(xs:List Value)(hs:a.eval s=v)(hown:w.ownsRow base e 1 v n xs)
  (A:Option Addr)(m c:Nat)(news:List Value)(hx:a.eval x= .slice A m c)(hr:ah S w A m news)(h1:∀u∈news,u.oneCell'=true)(h63:n+m≤maxLen)(hbytes:(n+m)*bytes≤140737488355328)(hbase:base≤w.heap.size)
  (h:∀A' c' w',w'.ownsRow base e 1 (.slice A' (n+m) c') (n+m) (xs++news)→w.grownBy w' v.ownBlock→(Value.slice A' (n+m) c'= .slice none 0 0↔v= .slice none 0 0∧m=0)→((Value.slice A' (n+m) c').ownBlock=v.ownBlock∨(Value.slice A' (n+m) c').ownBlock=some w.heap.size)→K (a.put o.dst (.slice A' (n+m) c')) w'):
  if Region.wanted o (yielded ops a.tmps)=true then Oper.wp P o a w K Q else E:=by
 have hw:Region.wanted o (yielded ops a.tmps)=true:=by simp[Region.wanted,hgd]
 rw[if_pos hw];obtain⟨A',c',w',hr,h2,h3,h4,h5⟩:=uQ (P:=P) base t o.type e i z bytes ht hi hz hsize hby hzs v n xs hown A m c news hr h1 h63 hbytes hbase;unfold Oper.wp execOp;simp only[ho,resolve,invoke,builtin,abJ,ab5,abF,abO,List.map_cons,abl,hs,hx,hr];exact h A' c' w' h2 h3 h4 h5
theorem yQ{w:World}(v:Value)(t:TypeId):ah (fun x=>x=w.heap.size) (w.alloc (.cells #[v] t)) (some ⟨w.heap.size,0,none⟩) 1 [v]:=by
 refine⟨rfl,by unfold maxLen;omega,fun _=>⟨_,0,rfl,rfl,by simp,fun i hi=> ?_⟩⟩;obtain rfl:i=0:=by omega
 have hh:(w.alloc (.cells #[v] t)).heap[w.heap.size]? =some (.cells #[v] t):=(MapKept.heap_alloc w _).1;simp only[World.cell?,hh];rfl
theorem kQ{w:World}(vs:List Value)(t:TypeId)(hm:vs.length≤maxLen):ah (fun x=>x=w.heap.size) (w.alloc (.cells vs.toArray t)) (some ⟨w.heap.size,0,none⟩) vs.length vs:=by
 refine⟨rfl,hm,fun _=>⟨_,0,rfl,rfl,by simp,fun i hi=> ?_⟩⟩;have hh:(w.alloc (.cells vs.toArray t)).heap[w.heap.size]? =some (.cells vs.toArray t):=(MapKept.heap_alloc w _).1;simp only[World.cell?,hh];simp
theorem bR{w w':World}{B:Nat}{e:TypeId}{size:Nat}{v:Value}{n:Nat}{xs:List Value}(h:w.ownsRow B e size v n xs)(hk:∀b,v.ownBlock=some b→b<w.heap.size→w'.heap[b]? =w.heap[b]?):w'.ownsRow B e size v n xs:=by
 refine⟨h.1,?_⟩;rcases h.2 with h1|⟨g,cap,cur,rfl,hg,hcur,rest⟩
 ·exact .inl h1
 ·exact .inr ⟨g,cap,cur,rfl,hg,(hk g rfl (uh.1 hcur).1).trans hcur,rest⟩
theorem jf{w:World}{B:Nat}{e:TypeId}{size:Nat}{v:Value}{n:Nat}{xs:List Value}(h:w.ownsRow B e size v n xs):∀b,v.ownBlock=some b→b<w.heap.size:=by
 intro b hb;rcases h.2 with⟨rfl,_⟩|⟨g,cap,cur,rfl,hg,hcur,rest⟩
 ·cases hb
 ·cases hb;exact(uh.1 hcur).1
end Go.Proofs.YtmflaonodghbcaaGreatDoor
