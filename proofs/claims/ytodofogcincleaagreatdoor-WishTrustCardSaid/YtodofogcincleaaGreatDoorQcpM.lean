/-
  One text.
-/
import Derived.Test.YtodofogcincleaaGreatDoorMQn
import Derived.Laws.IdiomCopy
import Derived.Laws.CopyRow
set_option linter.all false
namespace NQ
open Go Go.RowKit
theorem MM{P:Program}{w:World}{dT sT ty elem t' :TypeId}{info:TypeInfo}{g o dLen dCap sLen sCap sz:Nat}{a:Addr}{cs:List Value}{cur:Array Value}(hu:P.underlying dT=some (.slice elem))(hi:P.info? elem=some info)(hs:info.size=sz)
 (hn:cs.length=Nat.min sLen dLen*sz) (hh:∀j v,cs[j]? =some v->w.cell? (a.add j)=some v) (hg:w.heap[g]? =some (.cells cur t' (0,0))) (hl:o+cs.length<=cur.size) (h1:∀v∈cs,v.oneCell' =true) :
 (Builtin.copy_ #[dT,sT] ty #[.slice (some ⟨g,o,none⟩) dLen dCap,.slice (some a) sLen sCap]).run P w= .ok (goInt (Nat.min sLen dLen)) (w.setRow g (cur.toList.take o++cs++cur.toList.drop (o+cs.length)).toArray):=by
 have hU :=run_loadCells_list (P:=P) w a cs hh;have hL:=run_storeCells_at P g o t' cs 0 cur w hg (by simpa using hl) h1;simp only[Nat.add_zero]at hL;simp[Builtin.copy_,run_underlying hu,Builtin.lenOf,Builtin.firstCells,Go.sizeOf,typeInfo,hi,hs, <- hn,hU,hL]
structure RC where
 s:Nat
 e:TypeId
 sz:Nat
 rows:List (List D)
 fl:Bool
 aW:List (List D)
def zW(cx:Cx)(st:St)(o:Oper):Option RC :=
 match o.op with
 | .call c=>(match c.callee,c.args.toList,c.argTypes.toList with
  | .builtin .copy,[x,y],[t,t']=>(match st.ev cx x,cB cx t,oI st (st.ev cx y)with
   | .own s,some (e,ei),some (hG,aW)=>(match find st.heap s with
    |some (.row e' sz rows fl)=>(match Nat.beq sz hG,Nat.beq ei.size sz with
     |true,true=>some ⟨s,e',sz,rows,fl,aW⟩
     |_,_=>none)
    |_=>none)
   |_,_,_=>none)
  |_,_,_=>none)
 |_=>none
section
variable {cx:Cx} {st:St}
theorem Sq(hT:bD cx){o:Oper}{r:RC}(hw:zW cx st o=some r)(hlen:r.aW.length=r.rows.length):jh cx o st ⟨bF st.aV o.dst (.d (.int .i64 r.rows.length)),(r.s,.row r.e r.sz r.aW r.fl)::st.heap⟩:=by
 unfold zW at hw;split at hw
 case h_2=>cases hw
 rename_i c ho;split at hw
 case h_2=>cases hw
 rename_i x y t t' hI hJ hK;split at hw
 case h_2=>cases hw
 rename_i s e ei hG aW hx hX hh;split at hw
 case h_2=>cases hw
 rename_i e' sz rows fl hf;split at hw
 case h_2=>cases hw
 rename_i b1 b2;cases hw;obtain rfl:sz=hG:=bd b1;obtain rfl:ei.size=sz:=bd b2;dsimp only at hlen ⊢;obtain⟨cc,ca,ct⟩:=c;simp only at hI hJ hK;subst hI;obtain rfl:ca= #[x,y]:=by rw[<- Array.toList_inj];exact hJ
 obtain rfl:ct= #[t,t']:=by rw[<- Array.toList_inj];exact hK
 intro E a w Q hd hs;obtain⟨σ,hs⟩:=hs;have hl:live st.heap s:=aH.2 ⟨_,hf⟩;obtain⟨xs,o1,o2,o3,o4,o5⟩:=hs.holds.blk s _ hf;have hF:=hs.ev (St.le.refl st) x;rw[hx]at hF;have hex:a.eval x=σ s:=by
  generalize a.eval x=u at hF
  cases hF with|own _ _=>rfl
 have hW:=hs.ev (St.le.refl st) y;obtain⟨ad,cp,hQ,p1,p2⟩:=Cm hs hh hW;obtain⟨ti,ht,hS,hP⟩:=cC hX;obtain⟨_,_,_,_,t2,t3,_⟩:=hT _ _ ht;rw[hS]at t3;obtain rfl:=bZ t3;obtain⟨info,desc,zv,i1,i2,i3,i4,i5,i6,i7,i8,i9,i10⟩:=hT _ _ hP;have ha:∀{v:Value} {w' :World},(Builtin.copy_ #[t,t'] o.type #[σ s,.slice ad aW.length cp]).run cx.P w= .ok v w' ->(execOp a.eval o).run cx.P w= .ok (.value v) w' :=λ{v w'} h=>by
  simp[execOp,ho,resolve,invoke,builtin,hex,hQ,h]
 by_cases hD:aW=[]
 .subst hD;have hV:rows=[]:=List.eq_nil_of_length_eq_zero (by simpa using hlen.symm);subst hV;have hb:(Builtin.copy_ #[t,t'] o.type #[σ s,.slice ad 0 cp]).run cx.P w= .ok (goInt 0) w:=by
   have hσ:∃base cap,σ s= .slice base 0 cap:=by
    rcases o1.2 with ⟨e1,_⟩|⟨g,cap,cur,e1,_⟩
    .exact⟨none,0,e1⟩
    .exact⟨_,cap,e1⟩
   obtain⟨base,cap,e1⟩:=hσ;rw[e1];cases base <;> cases ad <;> simp[Builtin.copy_,run_underlying t2,Go.sizeOf,typeInfo,i1,Builtin.lenOf,Builtin.firstCells,loadCells,loadCellsFrom,storeCells]
  have:=ha hb;simp only[Oper.wp,this,Oper.upon];refine⟨σ,hs.Ha hd hl rfl rfl rfl (Nat.le_refl _) (λ_ _ _=>rfl) (λhk=>⟨xs,o1,o2,o3,o4,o5⟩) (.d _ _ (.int _ _))⟩
 .obtain⟨B,off,rfl,p3⟩:=p2 hD;have hY:1<=ei.size:=o3.1
  let f:Nat->Value:=λq=>(w.cell? ⟨B,off+q,none⟩).getD Go.undef
  have hq:∀q,q<aW.length*ei.size-> ∃r d,aW[q / ei.size]? =some r/\r[q % ei.size]? =some d/\d.one=true:=λq hq=>by
   have h1:q / ei.size<aW.length:=Nat.div_lt_of_lt_mul (by rw[Nat.mul_comm];exact hq);have h2:=au h1;have h3:=p1 _ (List.getElem_mem h1);have h4:q % ei.size<(aW[q / ei.size]).length:=by rw[h3.1];exact Nat.mod_lt _ hY
   exact⟨_,_,h2,au h4,h3.2 _ (List.getElem_mem h4)⟩
  have hN:∀q,q / ei.size*ei.size+q % ei.size=q:=λq=>by rw[Nat.mul_comm];exact Nat.div_add_mod q ei.size
  have hc:∀q,q<aW.length*ei.size->w.cell? ⟨B,off+q,none⟩=some (f q)/\(f q).oneCell' =true:=λq hp=>by
   obtain⟨r,d,h1,h2,h3⟩:=hq q hp;obtain⟨z,hz,hd⟩:=p3 _ r _ d h1 h2;rw[hN]at hz;have:f q=z:=by simp[f,hz]
   rw[this];exact⟨hz,hd.jd h3⟩
  let cs:List Value:=(List.range (aW.length*ei.size)).map f
  have hr:cs.length=aW.length*ei.size:=by simp[cs]
  have hA:∀j u,cs[j]? =some u->w.cell? ((⟨B,off,none⟩:Addr).add j)=some u:=λj u hj=>by
   have hp:j<aW.length*ei.size:=by have:=(aB.1 hj).1;rwa [hr]at this
   rw[de];have:f j=u:=by simpa [cs,hp] using hj
   rw[<- this];exact(hc j hp).1
  have hE:∀u∈cs,u.oneCell' =true:=λu hu=>by
   obtain⟨q,hq,rfl⟩:=List.mem_map.1 hu;exact(hc q (by simpa using hq)).2
  rcases o1.2 with ⟨e1,e2⟩|⟨g,cap,cur,e1,e2,e3,e4,e5,e6,e7⟩
  .exact absurd (List.eq_nil_of_length_eq_zero (hlen.trans e2)) hD
  .have hy:Nat.min aW.length rows.length=aW.length:=by rw[hlen];exact Nat.min_self _
   have hC:0+cs.length<=cur.size:=by
    have:rows.length*ei.size<=cap*ei.size:=Nat.mul_le_mul_right _ e4;rw[hr,hlen];omega
   have hb:=MM (P:=cx.P) (ty:=o.type) (sT:=t') (dLen:=rows.length) (dCap:=cap) (sLen:=aW.length) (sCap:=cp) t2 i1 i4 (by rw[hy];exact hr) hA e3 hC hE;rw[hy]at hb;rw[e1]at ha;have:=ha hb;simp only[Oper.wp,this,Oper.upon];simp only[List.take_zero,List.nil_append,Nat.zero_add];have hg:home (σ s)=some g:=by rw[e1];rfl
   have hR:g<w.heap.size:=(bI.1 e3).1;have hblk:∀k:Nat,k≠g->(w.setRow g (cs++cur.toList.drop cs.length).toArray).heap[k]? =w.heap[k]? :=λk hk=>by
    show(w.heap.modify g _)[k]? =_
    rw[Array.getElem?_modify,if_neg (Ne.symm hk)]
   have hB:(w.setRow g (cs++cur.toList.drop cs.length).toArray).heap[g]? =some (.cells (cs++cur.toList.drop cs.length).toArray e' (0,0)):=by
    show(w.heap.modify g _)[g]? =_
    rw[Array.getElem?_modify,if_pos rfl,e3];rfl
   refine⟨σ,?_⟩;have hv :(goInt aW.length)=Value.int .i64 rows.length:=by rw[hlen];rfl
   rw[hv];refine hs.Ha hd hl rfl rfl rfl (by show w.heap.size<=(w.heap.modify g _).size;simp) (λk _ hk=>hblk k λe=>hk (by rw[hg,e])) (λhk=>?_) (.d _ _ (.int _ _));refine⟨cs,⟨by rw[hr],.inr ⟨g,cap,_,by rw[e1,hlen],e2,hB,by rw[hlen];exact e4,e5,?_,?_⟩⟩,o2,⟨o3.1,λh=>by rw[hlen];exact o3.2 h⟩,p1,λi r j d hi hj=>?_⟩
   .simp only[List.size_toArray,List.length_append,List.length_drop,Array.length_toList];omega
   .simp only[List.toList_toArray] ;rw[List.take_append_of_le_length (by rw[hr];omega),List.take_of_length_le (by rw[hr];omega)]
   .obtain⟨z,hz,hM⟩:=p3 i r j d hi hj;have hp:i*ei.size+j<aW.length*ei.size:=by
     have h1:=(aB.1 hi).1;have h2:=(aB.1 hj).1;rw[(p1 r (aD hi)).1]at h2;have:(i+1)*ei.size<=aW.length*ei.size:=Nat.mul_le_mul_right _ h1;rw[Nat.add_mul]at this;omega
    refine⟨z,?_,hM.mono hk⟩;have:f (i*ei.size+j)=z:=by simp[f,hz]
    simp[cs,hp,this]
end
end NQ
