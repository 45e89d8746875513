/-
  The keys of a map with string keys, collected: what slices.Collect gives of maps.Keys. Generic over every program that bears them.
-/
import Derived.Test.YtjapjahfllomkaaGreatDoorAbM
import Derived.Test.YtjapjahfllomkaaGreatDoorQspM
import Derived.Shelf.SlIter.Collect
set_option linter.all false
namespace NQ
open Go Go.RowKit Go.Sort Go.Proofs Go.Shelf Go.Maps
theorem MZ{s:List UInt8}{v:Value}(h:jU [.tuple [.str s]] v):v=encStr s:=by
 rcases h with ⟨d,hd,hv⟩ | ⟨vs,_,hsz,hv⟩
 . cases hd;obtain⟨b,rfl,rfl⟩:=hv;simp[encStr]
 . exact(hv 0 _ rfl).elim
def A1:Value->Option (DataW Unit×List MemPlace):=fun _=>some (.lit (.bool true),[])
theorem Gr{P:Program}{k:TypeId}(hk:P.underlying k=some .string){w:World}{O:Nat->Prop}{m:List (List UInt8×D)}{v:Value}(h:Rep w O (.kmap (m.map iH)) v)(hnd:(m.map (·.1)).Nodup)(hl:∀p∈m,p.1.length<=maxLen)(hn:m.length<=maxLen) :
 ∃b,v= .map (some b)/\b<w.heap.size/\ ∃D0:DataW Unit,w.ownsMap P k A1 b m.length D0/\(strKeys D0).Perm (m.map (·.1))/\Maps.size D0=m.length:=by
 obtain⟨b,clock,es,rfl,hO,hB,hh,⟨hsz,hst⟩,hm⟩:=h.x5;rw[ao]at hsz;have hkey:es.toList.map (·.key)=m.map fun p=>encStr p.1:=by
  apply List.ext_getElem?;intro j;rw[aV,aV,bl];cases hj:m[j]? with
  | none =>
   have:m.length<=j:=List.getElem?_eq_none_iff.1 hj;rw[Array.getElem?_eq_none (by omega)];rfl
  | some p =>
   obtain⟨e,he,hk1,_⟩:=hm j [.tuple [.str p.1]] p.2 (by rw[aV,hj];rfl);rw[he];simp[MZ hk1]
 have hread:∀x∈es.toList,∃s,x.key=encStr s/\WideElems.rd P k A1 x=some (.string s, .lit (.bool true)):=fun x hx=>by
  have:x.key∈m.map fun p=>encStr p.1:=hkey ▸ List.mem_map_of_mem hx
  obtain⟨p,hp,hpe⟩:=List.mem_map.1 this;refine⟨p.1,hpe.symm,?_⟩;have hlen:=hl p hp;have hko:keyOf P k x.key=some (.string p.1):=by
   rw[<- hpe];have hs:(ByteArray.mk p.1.toArray).size<=maxLen:=by show p.1.toArray.size<=_;simpa using hlen
   simp[keyOf,hk,mapKey,encStr,hs]
  simp[WideElems.rd,hko,A1]
 have hrg:es.toList.map (WideElems.rg P k A1)=m.map fun p=>(Lit.string p.1, .lit (.bool true)):=by
  have:es.toList.map (WideElems.rg P k A1)=(es.toList.map (·.key)).map fun v=>(Lit.string (match v with | .string b=>b.data.toList | _=>[]), .lit (.bool true)):=by
   rw[List.map_map];refine List.map_congr_left fun x hx=>?_
   obtain⟨s,h1,h2⟩:=hread x hx;rw[WideElems.rg_of h2];simp[Function.comp,h1,encStr]
  rw[this,hkey,List.map_map];refine List.map_congr_left fun p _=>?_
  simp[encStr]
 have hsp:=WideShapes.sorted_perm (m.map fun p=>(Lit.string p.1,(.lit (.bool true):DataW Unit)));refine⟨b,rfl,hB,_,⟨es,clock,hh,⟨by omega,(MapKept.stamped_iff es clock).2 ⟨hst.1,hst.2,?_⟩,fun x hx=>?_⟩,by omega,rfl⟩,?_,?_⟩
 . have hnk:(es.toList.map (·.key)).Nodup:=by
    rw[hkey];have:(m.map fun p=>encStr p.1)=(m.map (·.1)).map encStr:=by rw[List.map_map];rfl
    rw[this];exact List.Pairwise.map _ (fun a b hab e=>hab (encStr_inj e)) hnd
   exact List.pairwise_map.1 hnk
 . obtain⟨s,_,h2⟩:=hread x hx;exact⟨_,h2⟩
 . rw[hrg];show(((m.map fun p=>(Lit.string p.1,(.lit (.bool true):DataW Unit))).foldr DataW.insert []).map fun p=>strOf p.1).Perm _
   refine(hsp.map _).trans (List.Perm.of_eq ?_);rw[List.map_map];exact List.map_congr_left fun p _=>rfl
 . rw[hrg];show((m.map fun p=>(Lit.string p.1,(.lit (.bool true):DataW Unit))).foldr DataW.insert []).length=_
   rw[hsp.length_eq,ao]
theorem BY{P:Program}{ρ ρ' :Ren}(Lk:SlLaysZ.n10 P ρ)(Lc:SlLaysZ.n8 P ρ'){w:World}{O:Nat->Prop}{m:List (List UInt8×D)}{Bm:Nat}{u:Value}(hBm:Bm<w.heap.size)(hcell:w.cell? ⟨Bm,0,none⟩=some u)
 (h:Rep w O (.kmap (m.map iH)) u) (hnd:(m.map (·.1)).Nodup) (hl:∀p∈m,p.1.length<=maxLen) (hn:m.length<=100000) :
 Calls P (ρ'.f 8) #[.func (.func (ρ.f 10)) #[] #[.pointer (some ⟨Bm,0,none⟩)]] w fun e w' => ∃(v:Value) (ss:List (List UInt8)),e= .returned v/\ss.Perm (m.map (·.1))/\w'.ownsRow w.heap.size (ρ'.t 26) 1 v ss.length (ss.map encStr)/\Below w.heap.size w w' :=by
 obtain⟨b,rfl,hb,D0,hown,hp,hs⟩:=Gr Lk.t26 h hnd hl (by simp only[maxLen];omega);have hseq:=AnyZ.keys_gives Lk Fence.wide 1 trivial rfl (by omega) Bm b m.length D0 w hBm hcell hown;have hc:=AnyZ.collect_in Lc Fence.wide 3 trivial trivial rfl (by omega) (ρ.f 10) #[.pointer (some ⟨Bm,0,none⟩)] trivial (Lk.f10.enters rfl) _ (Maps.size D0) (by rw[hs];simp only[maxLen];omega) (by rw[hs];omega) w hseq;refine(callsIn_wide.1 hc).mono ?_;rintro e w' ⟨v,ss,he,hS,hrow,_,hbel⟩;exact⟨v,ss,he,hS.trans hp,hrow,hbel⟩
end NQ
