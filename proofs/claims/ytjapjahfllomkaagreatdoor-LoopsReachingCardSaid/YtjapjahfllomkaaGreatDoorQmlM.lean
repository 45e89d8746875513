/-
  Library functions that turn a row of strings of the caller's. Generic.
-/
import Derived.Test.YtjapjahfllomkaaGreatDoorAbM
import Derived.Test.YtjapjahfllomkaaGreatDoorQmkM
import Derived.Sort.OwnSorted
set_option linter.all false
namespace NQ
open Go Go.RowKit Go.Sort Go.Proofs Go.Shelf
def om(s:List UInt8):List D:=[.str s]
theorem Lj{w:World}{O:Nat->Prop}{l:List (List UInt8)}{xs:List Value}(hl:xs.length=l.length)(h:∀i r j d,(l.map om)[i]? =some r->r[j]? =some d-> ∃u,xs[i*1+j]? =some u/\Rep w O d u):xs=l.map encStr:=by
 apply List.ext_getElem?;intro i;rw[aV];cases hi:l[i]? with
 | none =>
  have:l.length<=i:=List.getElem?_eq_none_iff.1 hi;rw[List.getElem?_eq_none (by omega)];rfl
 | some s =>
  obtain⟨u,hu,hr⟩:=h i (om s) 0 (.str s) (by rw[aV,hi];rfl) rfl;rw[Nat.mul_one,Nat.add_zero]at hu;rw[hu];cases hr with | str _ b hb=>subst hb;simp[encStr]
set_option maxHeartbeats 1000000 in
theorem EG{cx:Cx}{f:FuncId}{give:Bool}{e:TypeId}{l l' :List (List UInt8)}{fl:Bool}(hcal:gM cx.P f)(hnil:l=[]->l' =[])(hle:l'.length<=l.length)(hgive:give=false->l'.length=l.length)
 (hzero:l=[]-> ∀p cap w,Calls cx.P f #[.slice p 0 cap] w fun en w' =>(match give with | true=>en= .returned (.slice p 0 cap) | false=>en= .returned Go.undef)/\w' =w)
 (hrun:0<l.length-> ∀B cap w,Go.Sort.Holds encStr w B 0 l.toArray->l.length<=cap->Calls cx.P f #[.slice (some ⟨B,0,none⟩) l.length cap] w fun en w' =>
  (match give with | true=>en= .returned (.slice (some ⟨B,0,none⟩) l'.length cap) | false=>en= .returned Go.undef)/\ ∃q tl,l'.length+tl.length=l.length/\w' =putRow encStr (Sort.ahead w q) B 0 (l' ++tl).toArray) :
 FnR cx f give e 1 (l.map om) fl [] (l'.map om):=by
 refine EF ⟨hcal,fun O w v vs xs hOlt hG hGO hOv hown hfl hk hrows hrep hsz hargs=>?_⟩;obtain rfl:vs= #[]:=Array.eq_empty_of_size_eq_zero hsz;have hrow' :∀r∈l'.map om,r.length=1/\ ∀d∈r,d.one=true:=fun r hr=>by
  obtain⟨s,_,rfl⟩:=List.mem_map.1 hr;exact⟨rfl,fun d hd=>by rw[List.mem_singleton.1 hd];rfl⟩
 have hstr:∀{ys:List Value},ys=l'.map encStr-> ∀i r j d,(l'.map om)[i]? =some r->r[j]? =some d-> ∃u,ys[i*1+j]? =some u/\Rep w O d u:=fun he i r j d hi hj=>by
  subst he;rw[aV]at hi;cases hs:l'[i]? with
  | none=>rw[hs]at hi;cases hi
  | some s =>
   rw[hs]at hi;cases hi;rcases j with _ | j
   . cases hj;exact⟨encStr s,by rw[Nat.mul_one,Nat.add_zero,aV,hs];rfl, .str _ _ (by simp)⟩
   . simp[om]at hj
 rw[ao]at hown;by_cases hn:0<l.length
 . rcases hown with ⟨hxl,⟨_,hz⟩ | ⟨B,cap,cur,rfl,_,hB,hnc,hcm,hcs,htk⟩⟩
   . omega
   rw[Nat.mul_one]at hxl htk hcs;have hxs:=Lj hxl hrep;have hH:Go.Sort.Holds encStr w B 0 l.toArray:=holds_of_block hB (by rw[htk,hxs]);refine(hrun hn B cap w hH hnc).mono ?_;rintro en w' ⟨he,q,tl,htl,rfl⟩;have e0:putRow encStr (Sort.ahead w q) B 0 (l' ++tl).toArray=sortWorld encStr w B 0 q (l' ++tl).toArray #[]:=by unfold sortWorld;rw[grow_empty]
   rw[e0];have hsz' :(l' ++tl).toArray.size=l.length:=by simp;omega
   obtain⟨t1,t2⟩:=qQ encStr (l' ++tl).toArray cur (by rw[hsz',hcs];exact hnc);refine⟨.slice (some ⟨B,0,none⟩) l'.length cap,l'.map encStr,?_,rfl,rfl,rfl,pU _ _ _ _ _ _,fun b hb hne=>lP encStr w B _ q #[] hb fun h=>hne (by rw[h];rfl),fun b hb=> .inl hb,⟨by simp, .inr ⟨B,cap,_,by simp,Nat.zero_le _,qS encStr w B _ q #[] hB,by rw[ao];omega,hcm,by rw[t1,hcs,Nat.mul_one],?_⟩⟩,hrow',hstr rfl⟩
   . cases give with
     | true=>exact he
     | false=>exact⟨he,by rw[hgive rfl]⟩
   . rw[ao,Nat.mul_one];have h3:((putCells encStr 0 (l' ++tl).toArray cur).toList.take l.length).take l'.length=((l' ++tl).map encStr).take l'.length:=by rw[<- hsz',t2]
     rw[List.take_take,Nat.min_eq_left hle]at h3;rw[h3,List.map_append];rw[List.take_append_of_le_length (by simp),List.take_of_length_le (by simp)]
 . obtain rfl:l=[]:=List.eq_nil_of_length_eq_zero (by omega);obtain rfl:=hnil rfl;obtain⟨p,cap,hv⟩:∃p cap,v= .slice p 0 cap:=by
    rcases hown with ⟨_,⟨e,_⟩ | ⟨B,cap,cur,e,_⟩⟩
    . exact⟨none,0,e⟩
    . exact⟨_,cap,e⟩
   subst hv;refine(hzero rfl p cap w).mono ?_;rintro en w' ⟨he,rfl⟩;refine⟨_,xs,?_,rfl,rfl,rfl,Nat.le_refl _,fun _ _ _=>rfl,fun _ h=> .inl h,by simpa using hown,hrow',fun i r j x hi hj=>by simp at hi⟩;cases give with
   | true=>exact he
   | false=>exact⟨he,rfl⟩
end NQ
