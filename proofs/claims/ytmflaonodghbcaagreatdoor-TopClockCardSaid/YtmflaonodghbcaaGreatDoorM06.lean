/- string(b) -/
import Derived.Test.YtmflaonodghbcaaGreatDoorM02
import Derived.Laws.IdiomStrings
import Derived.Lib.BufferRead
import Derived.Test.YtmflaonodghbcaaGreatDoorM05
set_option maxRecDepth 100000
set_option maxHeartbeats 64000000
set_option linter.all false
namespace Go.Proofs.YtmflaonodghbcaaGreatDoor
open Go.ChangeShapes Go.WideShapes Go.ChangeAt Go.RowKit
def strOf(l:List UInt8):ByteArray:=⟨l.toArray⟩
theorem iJ(a:List UInt8):(strOf a).size=a.length:=by simp[strOf,ByteArray.size]
theorem dZ(a:List UInt8):(strOf a).toList=a:=by rw[ByteArray.toList_eq];simp[strOf]
theorem UH{a b:List UInt8}(h:a≠b):¬(strOf a).toList=(strOf b).toList∧((strOf a).toList==(strOf b).toList)=false:=by
 rw[dZ,dZ];exact⟨h,by simpa using h⟩
theorem pO{S:Nat→Prop}{w:World}{a:Option Addr}{n c:Nat}{bs:List UInt8}(h:ah S w a n (bs.map bv)):(convert 32 9 (.slice a n c)).run Tryz.prog w= .ok (.string (strOf bs)) w:=by
 have hl:=h.length;rw[List.length_map]at hl;rcases a with _|ad
 ·have h0:n=0:=by
   rcases aaF n with h0|h0
   ·exact h0
   ·obtain⟨_,_,e,_⟩:=h.at_ h0;cases e
  subst h0;have:bs=[]:=Pe hl;subst this;have:=Go.Lib.run_convert_nil_bytes (P:=Tryz.prog) w 32 9 5 c Tryz.underlying32 abh abj;exact this
 ·subst hl;refine run_convert_bytes_back w 32 9 5 ad c bs Tryz.underlying32 abh abj (fun j hj=> ?_);obtain⟨b,off,e,_,_,hc⟩:=h.at_ (by omega);simp only[aag]at e;subst e;rw[add_plain,hc j hj,List.getElem?_map,List.getElem?_eq_getElem hj];rfl
theorem UJ:∀a:List UInt8,bytesBefore a a=false
 |[]=>rfl
 |x::r=>by simp[bytesBefore,UJ r]
theorem pQ:∀a b c:List UInt8,bytesBefore a b=true→bytesBefore b c=true→bytesBefore a c=true
 |[],[],_,h,_=>by simp[bytesBefore]at h
 |[],_::_,[],_,h=>by simp[bytesBefore]at h
 |[],_::_,_::_,_,_=>by simp[bytesBefore]
 |_::_,[],_,h,_=>by simp[bytesBefore]at h
 |_::_,_::_,[],_,h=>by simp[bytesBefore]at h
 |x::r,y::s,z::t,h,k=>by
  simp only[bytesBefore,abz,aa2,aar,beq_iff_eq,UInt8.lt_iff_toNat_lt,←abA]at*;rcases h with h|⟨h,h'⟩<;>rcases k with k|⟨k,k'⟩
  ·exact .inl (by omega)
  ·exact .inl (by omega)
  ·exact .inl (by omega)
  ·exact .inr ⟨by omega,pQ r s t h' k'⟩
theorem UK:∀a b:List UInt8,a≠b→bytesBefore a b=true∨bytesBefore b a=true
 |[],[],h=>absurd rfl h
 |[],_::_,_=>by simp[bytesBefore]
 |_::_,[],_=>by simp[bytesBefore]
 |x::r,y::s,h=>by
  simp only[bytesBefore,abz,aa2,aar,beq_iff_eq,UInt8.lt_iff_toNat_lt];rcases Nat.lt_trichotomy x.toNat y.toNat with h1|h1|h1
  ·exact .inl (.inl h1)
  ·have e:x=y:=abA.1 h1;subst e;rcases UK r s (fun e=>h (by rw[e]))with h2|h2
   ·exact .inl (.inr ⟨rfl,h2⟩)
   ·exact .inr (.inr ⟨rfl,h2⟩)
  ·exact .inr (.inl h1)
theorem Dx:pK bytesBefore:=⟨UJ,pQ,UK⟩
def fT:Am Tryz.prog 9 (List UInt8) where
 lit x:= .string x
 val x:= .string (strOf x)
 ok x:=x.length≤maxLen
 lt:=bytesBefore
 law:=Go.Maps.string_keyed abj
 of x h:=Go.WideMaps.keyOf_string_mk abj (by rw[iJ];exact h)
 inv v kl h:=by
  obtain⟨s,rfl,rfl,hs⟩:=Go.WideMaps.string_of_keyOf abj h;exact⟨s.data.toList,by simp[strOf],rfl,by show s.data.toList.length≤maxLen;rw[Array.length_toList];exact hs⟩
 same a b:=by by_cases h:a=b<;>simp[Lit.sameKey,h]
 before a b:=rfl
 isKey a:=by exact trivial
end Go.Proofs.YtmflaonodghbcaaGreatDoor
