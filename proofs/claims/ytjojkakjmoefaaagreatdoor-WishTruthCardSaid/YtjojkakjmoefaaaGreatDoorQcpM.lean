/-
  One text.
-/
import Derived.Test.YtjojkakjmoefaaaGreatDoorMQn
import Derived.Laws.IdiomCopy
import Derived.Laws.CopyRow
set_option linter.all false

namespace NQ
open Go Go.RowKit
def Tl{P:Program}{w:World}{dT sT ty D t' :TypeId}{G:TypeInfo}{g o dLen dCap sLen sCap sz:Nat}{a:Addr}{cs:List Value}{cur:Array Value}(W:P.underlying dT=some (.slice D))(N:P.info? D=some G)(V:G.size=sz)
 (U:cs.length=Nat.min sLen dLen*sz) (H:∀j v,cs[j]? =some v->w.cell? (a.add j)=some v) (K:w.heap[g]? =some (.cells cur t' (0,0))) (T:o+cs.length<=cur.size) (h1:∀v∈cs,v.oneCell' =true) :
 (Builtin.copy_ #[dT,sT] ty #[.slice (some ⟨g,o,none⟩) dLen dCap,.slice (some a) sLen sCap]).run P w= .ok (goInt<|Nat.min sLen dLen) (w.setRow g (cur.toList.take o++cs++cur.toList.drop (o+cs.length)).toArray):=by
 have J :=run_loadCells_list (P:=P) w a cs H;have I:=run_storeCells_at P g o t' cs 0 cur w K (by simpa using T) h1;simp only[Nat.add_zero]at I;simp[Builtin.copy_,run_underlying W,Builtin.lenOf,Builtin.firstCells,Go.sizeOf,typeInfo,N,V, <- U,J,I]
structure YF where
 s:Nat
 e:TypeId
 sz:Nat
 rows:List (List D)
 fl:Bool
 aU:List (List D)
def Dn(cx:Cx)(st:St)(o:Oper):Option YF :=
 match o.op with
 | .call c=>(match c.callee,c.args.toList,c.argTypes.toList with
  | .builtin .copy,[x,y],[t,t']=>(match st.ev cx x,cD cx t,qX st (st.ev cx y)with
   | .own s,some (e,D),some (j,aU)=>(match find st.heap s with
    |some (.row e' sz rows fl)=>(match Nat.beq sz j,Nat.beq D.size sz with
     |true,true=>some ⟨s,e',sz,rows,fl,aU⟩
     |_,_=>none)
    |_=>none)
   |_,_,_=>none)
  |_,_,_=>none)
 |_=>none
section
variable {cx:Cx} {st:St}
def Zz(hT:bC cx){o:Oper}{r:YF}(N:Dn cx st o=some r)(D:r.aU.length=r.rows.length):lW cx o st ⟨bW st.aY o.dst<|.d<|.int .i64 r.rows.length,(r.s,.row r.e r.sz r.aU r.fl)::st.heap⟩:=by
 unfold Dn at N;split at N
 case h_2=>cases N
 rename_i c ho;split at N
 case h_2=>cases N
 rename_i x y t t' hp hr hs;split at N
 case h_2=>cases N
 rename_i s e G hJ aU hx hG hn;split at N
 case h_2=>cases N
 rename_i e' sz rows fl hf;split at N
 case h_2=>cases N
 rename_i b1 b2;cases N;obtain rfl:sz=hJ:=bg b1;obtain rfl:G.size=sz:=bg b2;dsimp only at D ⊢;obtain⟨cc,ca,ct⟩:=c;simp only at hp hr hs;subst hp;obtain rfl:ca= #[x,y]:=by rw[<- Array.toList_inj];exact hr
 obtain rfl:ct= #[t,t']:=by rw[<- Array.toList_inj];exact hs
 intro E a w Q hd W;obtain⟨σ,W⟩:=W;have hl:live st.heap s:=aH.2 ⟨_,hf⟩;obtain⟨xs,o1,o2,o3,o4,o5⟩:=W.holds.blk s _ hf;have hh:=W.ev (St.le.refl st) x;rw[hx]at hh;have hex:a.eval x=σ s:=by
  generalize a.eval x=u at hh
  cases hh with|own _ _=>rfl
 have hF:=W.ev (St.le.refl st) y;obtain⟨ad,cp,hB,p1,p2⟩:=Ge W hn hF;obtain⟨ti,ht,hD,hA⟩:=cE hG;obtain⟨_,_,_,_,t2,t3,_⟩:=hT _ _ ht;rw[hD]at t3;obtain rfl:=cd t3;obtain⟨info,desc,zv,i1,i2,i3,i4,i5,i6,i7,i8,i9,i10⟩:=hT _ _ hA;have H:∀{v:Value} {w' :World},(Builtin.copy_ #[t,t'] o.type #[σ s,.slice ad aU.length cp]).run cx.P w= .ok v w' ->(execOp a.eval o).run cx.P w= .ok (.value v) w' :=λ{v w'} h=>by
  simp[execOp,ho,resolve,invoke,builtin,hex,hB,h]
 by_cases Y:aU=[]
 .subst Y;have hE:rows=[]:=List.eq_nil_of_length_eq_zero (by simpa using D.symm);subst hE;have I:(Builtin.copy_ #[t,t'] o.type #[σ s,.slice ad 0 cp]).run cx.P w= .ok (goInt 0) w:=by
   have hσ:∃base cap,σ s= .slice base 0 cap:=by
    rcases o1.2 with ⟨U,_⟩|⟨g,cap,cur,U,_⟩
    .exact⟨none,0,U⟩
    .exact⟨_,cap,U⟩
   obtain⟨base,cap,U⟩:=hσ;rw[U];cases base<;>cases ad<;>simp[Builtin.copy_,run_underlying t2,Go.sizeOf,typeInfo,i1,Builtin.lenOf,Builtin.firstCells,loadCells,loadCellsFrom,storeCells]
  have:=H I;simp only[Oper.wp,this,Oper.upon];refine⟨σ,W.Na hd hl rfl rfl rfl (Nat.le_refl _) (λ_ _ _=>rfl) (λhk=>⟨xs,o1,o2,o3,o4,o5⟩)<|.d _ _<|.int _ _⟩
 .obtain⟨B,off,rfl,p3⟩:=p2 Y;have hI:1<=G.size:=o3.1
  let f:Nat->Value:=λq=>(w.cell? ⟨B,off+q,none⟩).getD Go.undef
  have hq:∀q,q<aU.length*G.size-> ∃r d,aU[q / G.size]? =some r/\r[q % G.size]? =some d/\d.one=true:=λq hq=>by
   have h1:q / G.size<aU.length:=Nat.div_lt_of_lt_mul (by rw[Nat.mul_comm];exact hq);have h2:=ao h1;have h3:=p1 _<|List.getElem_mem h1;have h4:q % G.size<(aU[q / G.size]).length:=by rw[h3.1];exact Nat.mod_lt _ hI
   exact⟨_,_,h2,ao h4,h3.2 _<|List.getElem_mem h4⟩
  have hy:∀q,q / G.size*G.size+q % G.size=q:=λq=>by rw[Nat.mul_comm];exact Nat.div_add_mod q G.size
  have T:∀q,q<aU.length*G.size->w.cell? ⟨B,off+q,none⟩=some (f q)/\(f q).oneCell' =true:=λq J=>by
   obtain⟨r,d,h1,h2,h3⟩:=hq q J;obtain⟨z,hz,hd⟩:=p3 _ r _ d h1 h2;rw[hy]at hz;have:f q=z:=by simp[f,hz]
   rw[this];exact⟨hz,hd.ky h3⟩
  let cs:List Value:=(List.range<|aU.length*G.size).map f
  have K:cs.length=aU.length*G.size:=by simp[cs]
  have Z:∀j u,cs[j]? =some u->w.cell? ((⟨B,off,none⟩:Addr).add j)=some u:=λj u hj=>by
   have J:j<aU.length*G.size:=by have:=(aA.1 hj).1;rwa [K]at this
   rw[dx];have:f j=u:=by simpa [cs,J] using hj
   rw[<- this];exact(T j J).1
  have hc:∀u∈cs,u.oneCell' =true:=λu hu=>by
   obtain⟨q,hq,rfl⟩:=List.mem_map.1 hu;exact(T q<|by simpa using hq).2
  rcases o1.2 with ⟨U,e2⟩|⟨g,cap,cur,U,e2,e3,e4,e5,e6,e7⟩
  .exact absurd (List.eq_nil_of_length_eq_zero<|D.trans e2) Y
  .have V:Nat.min aU.length rows.length=aU.length:=by rw[D];exact Nat.min_self _
   have hb:0+cs.length<=cur.size:=by
    have:rows.length*G.size<=cap*G.size:=Nat.mul_le_mul_right _ e4;rw[K,D];omega
   have I:=Tl (P:=cx.P) (ty:=o.type) (sT:=t') (dLen:=rows.length) (dCap:=cap) (sLen:=aU.length) (sCap:=cp) t2 i1 i4 (by rw[V];exact K) Z e3 hb hc;rw[V]at I;rw[U]at H;have:=H I;simp only[Oper.wp,this,Oper.upon];simp only[List.take_zero,List.nil_append,Nat.zero_add];have hg:home (σ s)=some g:=by rw[U];rfl
   have hC:g<w.heap.size:=(bP.1 e3).1;have hblk:∀k:Nat,k≠g->(w.setRow g (cs++cur.toList.drop cs.length).toArray).heap[k]? =w.heap[k]? :=λk hk=>by
    show(w.heap.modify g _)[k]? =_
    rw[Array.getElem?_modify,if_neg<|Ne.symm hk]
   have ha:(w.setRow g (cs++cur.toList.drop cs.length).toArray).heap[g]? =some (.cells (cs++cur.toList.drop cs.length).toArray e' (0,0)):=by
    show(w.heap.modify g _)[g]? =_
    rw[Array.getElem?_modify,if_pos rfl,e3];rfl
   refine⟨σ,?_⟩;have X :(goInt aU.length)=Value.int .i64 rows.length:=by rw[D];rfl
   rw[X];refine W.Na hd hl rfl rfl rfl (by show w.heap.size<=(w.heap.modify g _).size;simp) (λk _ hk=>hblk k λe=>hk<|by rw[hg,e]) (λhk=>?_)<|.d _ _<|.int _ _;refine⟨cs,⟨by rw[K],.inr ⟨g,cap,_,by rw[U,D],e2,ha,by rw[D];exact e4,e5,?_,?_⟩⟩,o2,⟨o3.1,λh=>by rw[D];exact o3.2 h⟩,p1,λi r j d hi hj=>?_⟩
   .simp only[List.size_toArray,List.length_append,List.length_drop,Array.length_toList];omega
   .simp only[List.toList_toArray] ;rw[List.take_append_of_le_length<|by rw[K];omega,List.take_of_length_le<|by rw[K];omega]
   .obtain⟨z,hz,hv⟩:=p3 i r j d hi hj;have J:i*G.size+j<aU.length*G.size:=by
     have h1:=(aA.1 hi).1;have h2:=(aA.1 hj).1;rw[(p1 r<|aw hi).1]at h2;have:(i+1)*G.size<=aU.length*G.size:=Nat.mul_le_mul_right _ h1;rw[Nat.add_mul]at this;omega
    refine⟨z,?_,hv.mono hk⟩;have:f (i*G.size+j)=z:=by simp[f,hz]
    simp[cs,J,this]
end

