/- Arguments -/
import Derived.Test.YtmflaonodghbcaaGreatDoorM02
import Derived.Deep.Slices
import Derived.Deep.Fields
import Derived.Deep.Grids
import Derived.ChangeSame
import Derived.Lib.SmallJoins
set_option maxRecDepth 100000
set_option maxHeartbeats 64000000
set_option linter.all false
namespace Go.Proofs.YtmflaonodghbcaaGreatDoor
open Go.Joins Go.ChangeShapes Go.WideShapes Go.ChangeAt Go.RowKit Go.Deep
section
variable{H:Type}{enc:TypeId×Value→H}{P:Program}{w:World}{base:Nat}{spare:Nat→Bool}{held:Bool}
theorem Rm{t e:TypeId}{fs:Array Field}{fuel:Nat}{cs:List Value}{x:DataW H×List MemPlace}(ht:P.underlying t=some (.slice e))(he:P.underlying e=some (.struct fs))
  (hone:oneCellFields P fs=true)(hC:P.cellsOf e=fs.size)(h:DataW.trod enc P w base spare held fuel t cs=some x):
  (cs=[.slice none 0 0]∧x=(.nil,[]))∨
  ∃(a:Addr) (len cap m:Nat) (D:Nat→DataW H) (Pl:Nat→List MemPlace),cs=[.slice (some a) len cap]∧base≤a.block∧len≤cap∧cap≤maxLen∧m=(if spare a.block then cap else len)∧
   x=(.slice ((List.range len).map D) ((List.range (m-len)).map fun j=>D (len+j)),MemPlace.row a (m*fs.size)++(List.range m).flatMap Pl)∧
   ∀i,i<m→∃(ys:List (DataW H×List MemPlace)) (n:Nat),D i= .agg (ys.map (·.1))∧Pl i=ys.flatMap (·.2)∧ys.length=fs.size∧
    ∀(j:Nat) (f:Field),fs[j]? =some f→∃(v:Value) (y:DataW H×List MemPlace),w.cell? (a.add (i*fs.size+j))=some v∧ys[j]? =some y∧DataW.trod enc P w base spare held n f.type [v]=some y:=by
 rcases open_slice ht h with h0|⟨a,len,cap,m,n,D,Pl,hcs,hb,hl,hm,hmm,hx,hi⟩
 ·exact .inl h0
 ·refine .inr ⟨a,len,cap,m,D,Pl,hcs,hb,hl,hm,hmm,by rw[hC]at hx;exact hx,fun i him=> ?_⟩;obtain⟨cs',hc,ht'⟩:=hi i him;rw[hC]at hc;obtain⟨ys,n',hn',hy,hlen,hyl,hf⟩:=DataW.trod_struct he ht';obtain⟨_,hcl,hat⟩:=World.cells?_some hc;simp only[aa7]at hy;refine⟨ys,n',hy.1,hy.2,hyl,fun j f hj=> ?_⟩;obtain⟨ho,hk⟩:=hone_of hone j f hj;have hjl:j<fs.size:=(uh.1 hj).1;have hcell:=hat j hjl;have hv:cs'[j]? =some (cs'[j]'(by omega)):=List.getElem?_eq_getElem (by omega);have h1:=hf j f hj;rw[ho,hk]at h1;have hone':(cs'.drop j).take 1=[cs'[j]'(by omega)]:=by
   rw[aa0 (by omega)];rfl
  rw[hone']at h1;have hys:ys[j]? =some (ys[j]'(by omega)):=List.getElem?_eq_getElem (by omega);refine⟨_,_,?_,hys,h1.trans hys⟩;rw[←Go.Deep.add_add,hcell,hv]
end
section
variable{H:Type}{enc:TypeId×Value→H}{W:World}
abbrev Old(W:World)(x:Nat):Prop:=x<W.heap.size
end
section
variable{H:Type}{P:Program}
end
section
variable{H:Type}{enc:TypeId×Value→H}{W:World}
end
section
variable{H:Type}{enc:TypeId×Value→H}{W:World}
theorem Ct{fuel:Nat}{v:Value}{x:DataW H×List MemPlace}(h:DataW.trod enc Tryz.prog W 0 (fun _=>true) true fuel 23 [v]=some x)(l:∀p∈x.2,p.block<W.heap.size):
  ∃a len cap bs,v= .slice a len cap∧len≤cap∧ah (Old W) W a len ((bs:List Bool).map Value.bool):=by
 rcases open_bools Tryz.underlying23 Tryz.underlying4 (by kernel_rfl) h with⟨hcs,hx⟩|⟨a,len,cap,B,hcs,_,hl,hm,hx,hcell⟩
 ·simp only[abB,and_true]at hcs;subst hcs;exact⟨none,0,0,[],rfl,Nat.le_refl _,ah.nil _ _ _⟩
 ·simp only[abB,and_true]at hcs;subst hcs;subst hx;refine⟨some a,len,cap,(List.range len).map B,rfl,hl,by simp,by omega,fun h0=> ?_⟩;obtain⟨b,off,spot⟩:=a;have hspot:spot=none:=by simpa[Addr.add]using World.cell?_spot (hcell 0 (by omega))
  subst hspot;have hb:b<W.heap.size:=l (.cell b off) (MemPlace.mem_row.2 ⟨0,by omega,by simp⟩);refine⟨b,off,rfl,hb,hb,fun i hi=> ?_⟩;have h1:=hcell i (by omega);rw[add_plain]at h1;rw[h1];simp[hi]
theorem Ug{fuel:Nat}{v:Value}{x:DataW H×List MemPlace}(h:DataW.trod enc Tryz.prog W 0 (fun _=>true) true fuel 22 [v]=some x)(l:∀p∈x.2,p.block<W.heap.size):
  ∃a len cap us,v= .slice a len cap∧len≤cap∧ah (Old W) W a len ((us:List Int).map (Value.int .u64))∧∀u∈us,0≤u∧u≤18446744073709551615:=by
 rcases open_ints Tryz.underlying22 Tryz.underlying29 (by kernel_rfl) h with⟨hcs,hx⟩|⟨a,len,cap,zs,hcs,_,hl,hm,hz,hx,hcell,hwz⟩
 ·simp only[abB,and_true]at hcs;subst hcs;exact⟨none,0,0,[],rfl,Nat.le_refl _,ah.nil _ _ _,by simp⟩
 ·simp only[abB,and_true]at hcs;subst hcs;subst hx;simp only[if_true]at hz;refine⟨some a,len,cap,zs.take len,rfl,hl,⟨by simp;omega,by omega,fun h0=> ?_⟩,fun u hu=> ?_⟩
  ·obtain⟨b,off,spot⟩:=a;have hspot:spot=none:=by simpa[Addr.add]using World.cell?_spot (hcell 0 (by omega))
   subst hspot;have hb:b<W.heap.size:=l (.cell b off) (MemPlace.mem_row.2 ⟨0,by omega,by simp⟩);refine⟨b,off,rfl,hb,hb,fun i hi=> ?_⟩;have h1:=hcell i (by omega);rw[add_plain]at h1;have hi':i<zs.length:=by omega
   rw[h1,List.getElem?_map,aat,if_pos hi,List.getElem?_eq_getElem hi'];simp only[aam,List.getD,List.getElem?_eq_getElem hi',Option.getD_some]
  ·have:=hwz u (aaK hu);simp[Lit.wf,IntKind.min,IntKind.max,IntKind.signed,IntKind.bits]at this;omega
end
end Go.Proofs.YtmflaonodghbcaaGreatDoor
