/-
  One text.
-/
import Derived.Test.YtodofogcincleaaGreatDoorMQn
import Derived.Laws.IdiomCopy
import Derived.Laws.CopyRow
set_option linter.all false
namespace NQ
open Go Go.RowKit
theorem KS{P:Program}{w:World}{dT sT ty elem t' :TypeId}{info:TypeInfo}{g o dLen dCap sLen sCap sz:Nat}{a:Addr}{cs:List Value}{cur:Array Value}(hu:P.underlying dT=some (.slice elem))(hi:P.info? elem=some info)(hs:info.size=sz)
 (hn:cs.length=Nat.min sLen dLen*sz) (hsrc:∀j v,cs[j]? =some v->w.cell? (a.add j)=some v) (hg:w.heap[g]? =some (.cells cur t' (0,0))) (hl:o+cs.length<=cur.size) (h1:∀v∈cs,v.oneCell' =true) :
 (Builtin.copy_ #[dT,sT] ty #[.slice (some ⟨g,o,none⟩) dLen dCap,.slice (some a) sLen sCap]).run P w= .ok (goInt (Nat.min sLen dLen)) (w.setRow g (cur.toList.take o++cs++cur.toList.drop (o+cs.length)).toArray):=by
 have hl' :=run_loadCells_list (P:=P) w a cs hsrc;have hst:=run_storeCells_at P g o t' cs 0 cur w hg (by simpa using hl) h1;simp only[Nat.add_zero]at hst;simp[Builtin.copy_,run_underlying hu,Builtin.lenOf,Builtin.firstCells,Go.sizeOf,typeInfo,hi,hs, <- hn,hl',hst]
structure Pr where
 s:Nat
 e:TypeId
 sz:Nat
 rows:List (List D)
 fl:Bool
 rows2:List (List D)
def yq(cx:Cx)(st:St)(o:Oper):Option Pr :=
 match o.op with
 | .call c=>(match c.callee,c.args.toList,c.argTypes.toList with
  | .builtin .copy,[x,y],[t,t']=>(match st.ev cx x,bO cx t,nM st (st.ev cx y)with
   | .own s,some (e,ei),some (sz2,rows2)=>(match find st.heap s with
    |some (.row e' sz rows fl)=>(match Nat.beq sz sz2,Nat.beq ei.size sz with
     |true,true=>some ⟨s,e',sz,rows,fl,rows2⟩
     |_,_=>none)
    |_=>none)
   |_,_,_=>none)
  |_,_,_=>none)
 |_=>none
section
variable {cx:Cx} {st:St}
theorem Qe(hT:ba cx){o:Oper}{r:Pr}(hw:yq cx st o=some r)(hlen:r.rows2.length=r.rows.length):iu cx o st ⟨bd st.slots o.dst (.d (.int .i64 r.rows.length)),(r.s,.row r.e r.sz r.rows2 r.fl)::st.heap⟩:=by
 unfold yq at hw;split at hw
 case h_2=>cases hw
 rename_i c ho;split at hw
 case h_2=>cases hw
 rename_i x y t t' hc1 hc2 hc3;split at hw
 case h_2=>cases hw
 rename_i s e ei sz2 rows2 hx hse hsrc;split at hw
 case h_2=>cases hw
 rename_i e' sz rows fl hf;split at hw
 case h_2=>cases hw
 rename_i b1 b2;cases hw;obtain rfl:sz=sz2:=aO b1;obtain rfl:ei.size=sz:=aO b2;dsimp only at hlen ⊢;obtain⟨cc,ca,ct⟩:=c;simp only at hc1 hc2 hc3;subst hc1;obtain rfl:ca= #[x,y]:=by rw[<- Array.toList_inj];exact hc2
 obtain rfl:ct= #[t,t']:=by rw[<- Array.toList_inj];exact hc3
 intro E a w Q hd hs;obtain⟨σ,hs⟩:=hs;have hl:live st.heap s:=ax.2 ⟨_,hf⟩;obtain⟨xs,o1,o2,o3,o4,o5⟩:=hs.holds.blk s _ hf;have hrx:=hs.ev (St.le.refl st) x;rw[hx]at hrx;have hex:a.eval x=σ s:=by
  generalize a.eval x=u at hrx
  cases hrx with|own _ _=>rfl
 have hry:=hs.ev (St.le.refl st) y;obtain⟨ad,cp,hey,p1,p2⟩:=AN hs hsrc hry;obtain⟨ti,ht,hkd,hei⟩:=bP hse;obtain⟨_,_,_,_,t2,t3,_⟩:=hT _ _ ht;rw[hkd]at t3;obtain rfl:=bE t3;obtain⟨info,desc,zv,i1,i2,i3,i4,i5,i6,i7,i8,i9,i10⟩:=hT _ _ hei;have hrunOp:∀{v:Value} {w' :World},(Builtin.copy_ #[t,t'] o.type #[σ s,.slice ad rows2.length cp]).run cx.P w= .ok v w' ->(execOp a.eval o).run cx.P w= .ok (.value v) w' :=λ{v w'} h=>by
  simp[execOp,ho,resolve,invoke,builtin,hex,hey,h]
 by_cases hne:rows2=[]
 . subst hne;have hr0:rows=[]:=List.eq_nil_of_length_eq_zero (by simpa using hlen.symm);subst hr0;have hrun:(Builtin.copy_ #[t,t'] o.type #[σ s,.slice ad 0 cp]).run cx.P w= .ok (goInt 0) w:=by
    have hσ:∃base cap,σ s= .slice base 0 cap:=by
     rcases o1.2 with ⟨e1,_⟩|⟨g,cap,cur,e1,_⟩
     . exact⟨none,0,e1⟩
     . exact⟨_,cap,e1⟩
    obtain⟨base,cap,e1⟩:=hσ;rw[e1];cases base <;> cases ad <;> simp[Builtin.copy_,run_underlying t2,Go.sizeOf,typeInfo,i1,Builtin.lenOf,Builtin.firstCells,loadCells,loadCellsFrom,storeCells]
   have:=hrunOp hrun;simp only[Oper.wp,this,Oper.upon];refine⟨σ,hs.Fl hd hl rfl rfl rfl (Nat.le_refl _) (λ_ _ _=>rfl) (λhk=>⟨xs,o1,o2,o3,o4,o5⟩) (.d _ _ (.int _ _))⟩
 . obtain⟨B,off,rfl,p3⟩:=p2 hne;have hsz:1<=ei.size:=o3.1
   let f:Nat->Value:=λq=>(w.cell? ⟨B,off+q,none⟩).getD Go.undef
   have hq:∀q,q<rows2.length*ei.size-> ∃r d,rows2[q / ei.size]? =some r/\r[q % ei.size]? =some d/\d.one=true:=λq hq=>by
    have h1:q / ei.size<rows2.length:=Nat.div_lt_of_lt_mul (by rw[Nat.mul_comm];exact hq);have h2:=aj h1;have h3:=p1 _ (List.getElem_mem h1);have h4:q % ei.size<(rows2[q / ei.size]).length:=by rw[h3.1];exact Nat.mod_lt _ hsz
    exact⟨_,_,h2,aj h4,h3.2 _ (List.getElem_mem h4)⟩
   have hdm:∀q,q / ei.size*ei.size+q % ei.size=q:=λq=>by rw[Nat.mul_comm];exact Nat.div_add_mod q ei.size
   have hcell:∀q,q<rows2.length*ei.size->w.cell? ⟨B,off+q,none⟩=some (f q)/\(f q).oneCell' =true:=λq hlt=>by
    obtain⟨r,d,h1,h2,h3⟩:=hq q hlt;obtain⟨z,hz,hd⟩:=p3 _ r _ d h1 h2;rw[hdm]at hz;have:f q=z:=by simp[f,hz]
    rw[this];exact⟨hz,hd.im h3⟩
   let cs:List Value:=(List.range (rows2.length*ei.size)).map f
   have hnl:cs.length=rows2.length*ei.size:=by simp[cs]
   have hnews:∀j u,cs[j]? =some u->w.cell? ((⟨B,off,none⟩:Addr).add j)=some u:=λj u hj=>by
    have hlt:j<rows2.length*ei.size:=by have:=(aq.1 hj).1;rwa [hnl]at this
    rw[cC];have:f j=u:=by simpa [cs,hlt] using hj
    rw[<- this];exact(hcell j hlt).1
   have hone:∀u∈cs,u.oneCell' =true:=λu hu=>by
    obtain⟨q,hq,rfl⟩:=List.mem_map.1 hu;exact(hcell q (by simpa using hq)).2
   rcases o1.2 with ⟨e1,e2⟩|⟨g,cap,cur,e1,e2,e3,e4,e5,e6,e7⟩
   . exact absurd (List.eq_nil_of_length_eq_zero (hlen.trans e2)) hne
   . have hmin:Nat.min rows2.length rows.length=rows2.length:=by rw[hlen];exact Nat.min_self _
     have hfit:0+cs.length<=cur.size:=by
      have:rows.length*ei.size<=cap*ei.size:=Nat.mul_le_mul_right _ e4;rw[hnl,hlen];omega
     have hrun:=KS (P:=cx.P) (ty:=o.type) (sT:=t') (dLen:=rows.length) (dCap:=cap) (sLen:=rows2.length) (sCap:=cp) t2 i1 i4 (by rw[hmin];exact hnl) hnews e3 hfit hone;rw[hmin]at hrun;rw[e1]at hrunOp;have:=hrunOp hrun;simp only[Oper.wp,this,Oper.upon];simp only[List.take_zero,List.nil_append,Nat.zero_add];have hg:home (σ s)=some g:=by rw[e1];rfl
     have hglt:g<w.heap.size:=(bj.1 e3).1;have hblk:∀k:Nat,k≠g->(w.setRow g (cs++cur.toList.drop cs.length).toArray).heap[k]? =w.heap[k]? :=λk hk=>by
      show(w.heap.modify g _)[k]? =_
      rw[Array.getElem?_modify,if_neg (Ne.symm hk)]
     have hself:(w.setRow g (cs++cur.toList.drop cs.length).toArray).heap[g]? =some (.cells (cs++cur.toList.drop cs.length).toArray e' (0,0)):=by
      show(w.heap.modify g _)[g]? =_
      rw[Array.getElem?_modify,if_pos rfl,e3];rfl
     refine⟨σ,?_⟩;have hlen' :(goInt rows2.length)=Value.int .i64 rows.length:=by rw[hlen];rfl
     rw[hlen'];refine hs.Fl hd hl rfl rfl rfl (by show w.heap.size<=(w.heap.modify g _).size;simp) (λk _ hk=>hblk k λe=>hk (by rw[hg,e])) (λhk=>?_) (.d _ _ (.int _ _));refine⟨cs,⟨by rw[hnl],.inr ⟨g,cap,_,by rw[e1,hlen],e2,hself,by rw[hlen];exact e4,e5,?_,?_⟩⟩,o2,⟨o3.1,λh=>by rw[hlen];exact o3.2 h⟩,p1,λi r j d hi hj=>?_⟩
     . simp only[List.size_toArray,List.length_append,List.length_drop,Array.length_toList];omega
     . simp only[List.toList_toArray] ;rw[List.take_append_of_le_length (by rw[hnl];omega),List.take_of_length_le (by rw[hnl];omega)]
     . obtain⟨z,hz,hd'⟩:=p3 i r j d hi hj;have hlt:i*ei.size+j<rows2.length*ei.size:=by
        have h1:=(aq.1 hi).1;have h2:=(aq.1 hj).1;rw[(p1 r (ar hi)).1]at h2;have:(i+1)*ei.size<=rows2.length*ei.size:=Nat.mul_le_mul_right _ h1;rw[Nat.add_mul]at this;omega
       refine⟨z,?_,hd'.mono hk⟩;have:f (i*ei.size+j)=z:=by simp[f,hz]
       simp[cs,hlt,this]
end
end NQ
