/-
  One text.
-/
import Derived.Test.YtodofogcincleaaGreatDoorMQn
import Derived.Test.YtodofogcincleaaGreatDoorDrM
import Derived.Shelf.SlSortCmp.WholeK
import Derived.Shelf.SlSortCmp.NoneTotal
set_option linter.all false
namespace NQ
open Go Go.RowKit Go.Sort Go.Proofs Go.Shelf
def cfN{α:Type}(c:α->α->Int)(l:List α)(i j:Nat):Int:=match l[i]?, l[j]? with|some x,some y=>c x y|_,_=>0
def nY(n:Nat)(cf:Nat->Nat->Int)(h:0<n):Array (Fin n) :=
 letI:Inhabited (Fin n):=⟨⟨0,h⟩⟩
 pdq (ltOf λi j:Fin n=>cf i j) (Array.ofFn id) 0 n (Lib.bitLen n) true true
def PM(n:Nat)(cf:Nat->Nat->Int):List Nat:=if h:0<n then(nY n cf h).toList.map Fin.val else[]
def fT{α:Type}(c:α->α->Int)(l:List α):List α:=(PM l.length (cfN c l)).filterMap (l[·]?)
def ky{α:Type}(c:α->α->Int)(l:List α):Prop :=
 (∀x∈l,¬c x x<0)/\(∀x∈l,∀y∈l,∀z∈l,c x y<0->c y z<0->c x z<0)/\(∀x∈l,∀y∈l,∀z∈l,¬c x y<0-> ¬c y z<0-> ¬c x z<0)
theorem rT{α:Type}{c:α->α->Int}{l:List α}(i j:Fin l.length):cfN c l i j=c l[i] l[j]:=by
 unfold cfN;rw[aj i.2,aj j.2];rfl
theorem ky.swo{α:Type}{c:α->α->Int}{l:List α}(h:ky c l):SWO (ltOf λi j:Fin l.length=>cfN c l i j):=by
 have m:∀i:Fin l.length,l[i]∈l:=λi=>List.getElem_mem i.2
 refine⟨λx=>?_,λx y z a b=>?_,λx y z a b=>?_⟩
 . have:=h.1 _ (m x);simp only[ltOf,rT,decide_eq_false_iff_not];exact this
 . simp only[ltOf,decide_eq_true_eq,rT]at *;exact h.2.1 _ (m x) _ (m y) _ (m z) a b
 . simp only[ltOf,decide_eq_false_iff_not,rT]at *;exact h.2.2 _ (m x) _ (m y) _ (m z) a b
theorem zD{α:Type}{c:α->α->Int}{l:List α}(h:0<l.length)(hc:ky c l) :
 (nY l.length (cfN c l) h).size=l.length/\(nY l.length (cfN c l) h).toList.Perm (List.finRange l.length)/\(nY l.length (cfN c l) h).toList.Pairwise λi j=> ¬c l[j] l[i]<0:=by
 letI:Inhabited (Fin l.length):=⟨⟨0,h⟩⟩
 have hsz:(Array.ofFn (id:Fin l.length->Fin l.length)).size=l.length:=by simp
 have hp:=pdq_sorts (ltOf λi j:Fin l.length=>cfN c l i j) hc.swo (Array.ofFn id) 0 l.length (Lib.bitLen l.length) true true (Nat.zero_le _) (by rw[hsz];exact Nat.le_refl _) (Or.inl rfl);obtain⟨⟨p1,p2,p3⟩,p4⟩:=hp;have e:nY l.length (cfN c l) h=pdq (ltOf λi j:Fin l.length=>cfN c l i j) (Array.ofFn id) 0 l.length (Lib.bitLen l.length) true true:=rfl;rw[<- e]at p1 p2 p3 p4;rw[hsz]at p1;generalize nY l.length (cfN c l) h=q at *
 refine⟨p1,?_,?_⟩
 . have aux:∀{n m:Nat} {q:Array (Fin n)},q.size=m->q.extract 0 m=q:=by rintro n _ q rfl;simp
   have a1:=aux p1;have a2:=aux hsz;rw[a1,a2]at p3;refine p3.trans (List.Perm.of_eq ?_);rw[Array.toList_ofFn,List.finRange];rfl
 . rw[List.pairwise_iff_getElem];intro i j hi hj hij;have:=p4 i j (Nat.zero_le _) hij (by rw[<- p1];simpa using hj);rw[getElem!_pos _ i (by simpa using hi),getElem!_pos _ j (by simpa using hj)]at this;simp only[ltOf,rT,decide_eq_false_iff_not]at this;simpa using this
theorem EL{α:Type}(c:α->α->Int)(l:List α)(h:0<l.length):fT c l=(nY l.length (cfN c l) h).toList.map λi=>l[i]:=by
 unfold fT PM;rw[dif_pos h];generalize (nY l.length (cfN c l) h).toList=q;induction q with
 |nil=>rfl
 |cons i q ih =>
  rw[List.map_cons,List.filterMap_cons,aj i.2];simp only[List.map_cons];rw[ih];rfl
theorem BI{α:Type}(c:α->α->Int):fT c ([]:List α)=[]:=rfl
theorem pt{α:Type}{c:α->α->Int}{l:List α}(hc:ky c l):(fT c l).Perm l:=by
 by_cases h:0<l.length
 . rw[EL c l h];refine((zD h hc).2.1.map λi=>l[i]).trans (List.Perm.of_eq ?_);apply List.ext_getElem
   . simp
   . intro i h1 h2;simp
 . obtain rfl:l=[]:=List.eq_nil_of_length_eq_zero (by omega);exact List.Perm.nil
theorem BH{α β:Type}(f:α->β)(c:α->α->Int)(c' :β->β->Int)(l:List α)(h:∀x∈l,∀y∈l,c' (f x) (f y)=c x y):fT c' (l.map f)=(fT c l).map f:=by
 have e:cfN c' (l.map f)=cfN c l:=by
  funext i j
  unfold cfN;rw[aN,aN];cases hi:l[i]? with
  |none=>rfl
  |some x =>
   cases hj:l[j]? with
   |none=>rfl
   |some y=>exact h x (ar hi) y (ar hj)
 unfold fT;rw[e,ao,List.map_filterMap]
 congr 1
 funext i
 rw[aN]
theorem ky.map{α β:Type}{f:α->β}{c:α->α->Int}{c' :β->β->Int}{l:List α}(h:∀x∈l,∀y∈l,c' (f x) (f y)=c x y)(hc:ky c l):ky c' (l.map f):=by
 refine⟨λx hx=>?_,λx hx y hy z hz=>?_,λx hx y hy z hz=>?_⟩
 . obtain⟨a,ha,rfl⟩:=List.mem_map.1 hx;rw[h a ha a ha];exact hc.1 a ha
 . obtain⟨a,ha,rfl⟩:=List.mem_map.1 hx;obtain⟨b,hb,rfl⟩:=List.mem_map.1 hy;obtain⟨d,hd,rfl⟩:=List.mem_map.1 hz;rw[h a ha b hb,h b hb d hd,h a ha d hd];exact hc.2.1 a ha b hb d hd
 . obtain⟨a,ha,rfl⟩:=List.mem_map.1 hx;obtain⟨b,hb,rfl⟩:=List.mem_map.1 hy;obtain⟨d,hd,rfl⟩:=List.mem_map.1 hz;rw[h a ha b hb,h b hb d hd,h a ha d hd];exact hc.2.2 a ha b hb d hd
theorem ky.key{α:Type}{c:α->α->Int}{l:List α}(k:α->Int)(h:∀x∈l,∀y∈l,c x y<0 ↔ k x<k y):ky c l :=
 ⟨λx hx=>by rw[h x hx x hx];omega,λx hx y hy z hz=>by rw[h x hx y hy,h y hy z hz,h x hx z hz];omega,λx hx y hy z hz=>by rw[h x hx y hy,h y hy z hz,h x hx z hz];omega⟩
section
variable {k n:Nat} {xs:List Value}
def vF(k:Nat)(xs:List Value)(n:Nat)(i:Fin n):List Value:=(xs.drop (i*k)).take k
theorem uu(hx:xs.length=n*k)(i:Fin n):(vF k xs n i).length=k:=by
 have:=Nat.mul_le_mul_right k (show i.1+1<=n from i.2);rw[Nat.add_mul,Nat.one_mul]at this;simp[vF];omega
theorem ur(i:Fin n){j:Nat}(hj:j<k):(vF k xs n i)[j]? =xs[i*k+j]? :=by
 simp[vF,List.getElem?_take,hj]
theorem GU[Inhabited (Fin n)](hx:xs.length=n*k){d:Array (Fin n)}{i j:Nat}(hi:i<d.size)(hj:j<k):(flatK (vF k xs n) k d)[i*k+j]! =xs.getD (d[i]*k+j) default:=by
 have lt:i*k+j<d.size*k:=by
  have:=Nat.mul_le_mul_right k (show i+1<=d.size from hi);rw[Nat.add_mul,Nat.one_mul]at this;omega
 rw[get_flatK _ _ _ _ lt];have e1:(i*k+j) / k=i:=(blk_iff k i _ (by omega)).1 ⟨by omega,by omega⟩;have e2:(i*k+j) % k=j:=by rw[Nat.mod_eq_sub_div_mul,e1];omega
 rw[e1,e2,getElem!_pos d i hi];have:=ur (xs:=xs) (k:=k) d[i] hj;rw[List.getElem!_eq_getElem?_getD,this,List.getD_eq_getElem?_getD]
end
theorem qZ{α:Type}[Inhabited α](enc:α->List Value)(k:Nat)(w:World)(B:Nat)(d:Array α)(m:Nat)(os:Array Obj){b:Nat}(hb:b<w.heap.size)(hne:b≠B):(sortWorldK enc k w B 0 m d os).heap[b]? =w.heap[b]? :=by
 show((w.heap.modify B _)++os)[b]? =_
 rw[Array.getElem?_append,if_pos (by simpa using hb),Array.getElem?_modify,if_neg (Ne.symm hne)]
theorem Cg{α:Type}[Inhabited α](enc:α->List Value)(k:Nat)(w:World)(B:Nat)(d:Array α)(m:Nat)(os:Array Obj){cur:Array Value}{e:TypeId}{fr:Nat×Nat}(h:w.heap[B]? =some (.cells cur e fr)) :
 (sortWorldK enc k w B 0 m d os).heap[B]? =some (.cells (putCells id 0 (flatK enc k d) cur) e fr):=by
 have hb:B<w.heap.size:=(bj.1 h).1;show((w.heap.modify B _)++os)[B]? =_
 rw[Array.getElem?_append,if_pos (by simpa using hb),Array.getElem?_modify,if_pos rfl,h];rfl
theorem Cd(F cur:Array Value)(h:F.size<=cur.size):(putCells id 0 F cur).size=cur.size/\(putCells id 0 F cur).toList.take F.size=F.toList:=by
 have hs:(putCells id 0 F cur).size=cur.size:=by simp[putCells]
 refine⟨hs,?_⟩;apply List.ext_getElem?;intro j;rw[List.getElem?_take];split
 . rename_i hj;have hjc:j<cur.size:=by omega
   rw[aW,aW];simp[putCells,hj,hjc]
 . rename_i hj;rw[aW,Array.getElem?_eq_none (by omega)]
set_option maxHeartbeats 2000000 in
theorem EM{cx:Cx}{ρ:Ren}(L:SlLaysF0.n6 cx.P ρ){k:Nat}(aE:∀w,(isAgg (ρ.t 24)).run cx.P w= .ok true w)(zE:∀w,(Go.sizeOf (ρ.t 24)).run cx.P w= .ok k w)(hcal:ff cx.P (ρ.f 6)){e:TypeId}{g:FuncId}{caps:List D}{c:List D->List D->Int}{rows:List (List D)}{fl:Bool}
 (hcmp:∀x∈rows,∀y∈rows,Fn cx g ([.agg x,.agg y]++caps) (.d (.int .i64 (c x y))) []) (eg:∀args w,(callFunc g args).run cx.P w= .ok (.enter g args) w) (hO:ky c rows) (hlen:rows.length<4611686018427387904):FnR cx (ρ.f 6) false e k rows fl [.fn g [] caps] (fT c rows):=by
 refine Qm ⟨hcal,λO w v vs xs hOlt hG hGO hOv hown hfl hk hrows hrep hsz hargs=>?_⟩;have hvs:vs= #[vs.getD 0 Go.undef]:=by
  apply Array.ext
  . simpa using hsz
  . intro i h1 h2;simp at h2;subst h2;simp[h1]
 have hfv:=hargs 0 _ rfl;rw[hvs];generalize vs.getD 0 Go.undef=fv at hfv;cases hfv with|fn _ _ _ xs0 cb hx0 hcl h1 h2 _ =>
 have hx0:xs0= #[]:=Array.eq_empty_of_size_eq_zero hx0;subst hx0;by_cases hn:0<rows.length
 . rcases hown with ⟨hxl,⟨_,hz⟩|⟨B,cap,cur,rfl,_,hB,hnc,hcm,hcs,htk⟩⟩
   . omega
   have hBlt:B<w.heap.size:=(bj.1 hB).1;have hOB:O B:=hOv B rfl
   letI:Inhabited (Fin rows.length):=⟨⟨0,hn⟩⟩
   let enc:=vF k xs rows.length
   let d:Array (Fin rows.length):=Array.ofFn id
   have hdsz:d.size=rows.length:=by simp[d]
   have hxg:∀(i:Fin rows.length) (j:Nat) x,rows[i][j]? =some x->j<k/\ ∃u,xs[i*k+j]? =some u/\Rep w O x u:=λi j x hj=>by
    have hr:rows[i.1]? =some rows[i]:=aj i.2;have h1:rows[i].length=k:=(hrows _ (List.getElem_mem i.2)).1;exact⟨by have:=(aq.1 hj).1;omega,hrep i.1 _ j x hr hj⟩
   have hH:HoldsK enc k w B 0 d:=by
    intro j hj;rw[size_flatK]at hj;have hjx:j<xs.length:=by rw[hxl, <- hdsz];exact hj
    have hq:j / k<d.size:=Nat.div_lt_of_lt_mul (by rw[Nat.mul_comm];exact hj);have hm:j % k<k:=Nat.mod_lt _ hk;have he:j / k*k+j % k=j:=by rw[Nat.mul_comm];exact Nat.div_add_mod j k
    have hf:=GU (xs:=xs) (k:=k) hxl (d:=d) hq hm;rw[he]at hf;have hdq:(d[j / k]:Nat)=j / k:=by simp[d]
    rw[hdq,he]at hf;have hc:cur[j]? =some (xs.getD j default):=by
     have:=congrArg (λl:List Value=>l[j]?) htk;simp only[List.getElem?_take,aW]at this;rw[if_pos (by rw[<- hdsz];exact hj)]at this;rw[this,List.getD_eq_getElem?_getD,aj hjx];rfl
    constructor
    . simp only[World.cell?,hB,Nat.zero_add];show cur[j]? =some ((flatK enc k d)[j]!)
      rw[hf];exact hc
    . simp[World.frozen?,hB]
   have keeps:∀m dk os,aU w (sortWorldK enc k w B 0 m dk os) O O:=λm dk os =>
    ⟨size_sortWorldK_c enc k w B 0 m dk os,λb hb hlt=>qZ enc k w B dk m os hlt λh=>hb (h ▸ hOB),λb hb _=>hb⟩
   have hcl:CmpLays cx.P g cb enc k (λi j=>cfN c rows i j) B 0 d.size w:=by
    intro m os dk hdk i j;have kp:=keeps m dk os;have hW:iN cx (sortWorldK enc k w B 0 m dk os):=λgg cells hgl=>by
     obtain⟨a1,a2,a3⟩:=hG gg cells hgl;refine⟨Nat.lt_of_lt_of_le a1 kp.size,a2,λjj dd hjj=>?_⟩;obtain⟨u,hu,hr⟩:=a3 jj dd hjj;exact⟨u,by rw[kp.cell (hGO gg cells hgl) a1];exact hu,hr.eL (ay.1 a2 dd (ar hjj))⟩
    have hagg:∀i:Fin rows.length,Rep (sortWorldK enc k w B 0 m dk os) O (.agg rows[i]) (.agg (enc i).toArray):=λi=>by
     have h1:=hrows _ (List.getElem_mem i.2);refine .agg _ _ (by rw[List.size_toArray,uu hxl];exact h1.1.symm) h1.2 λjj x hj=>?_
     obtain⟨hjk,u,hu,hr⟩:=hxg i jj x hj;have:(enc i).toArray.getD jj Go.undef=u:=by
      rw[bp,List.getElem?_toArray,ur i hjk,hu];rfl
     rw[this];exact hr.mono kp
    have hcall:=(hcmp rows[i] (List.getElem_mem i.2) rows[j] (List.getElem_mem j.2)).2 O (sortWorldK enc k w B 0 m dk os) (#[.agg (enc i).toArray,.agg (enc j).toArray]++cb)
     (λb hb=>Nat.lt_of_lt_of_le (hOlt b hb) kp.size) hW hGO (by simp[hcl];omega) (λjj x hj=>by
      rcases jj with _|_|jj
      . cases hj;have e:(#[Value.agg (enc i).toArray,Value.agg (enc j).toArray]++cb).getD 0 Go.undef=Value.agg (enc i).toArray:=by
         rw[bp,Array.getElem?_append_left (by simp)];rfl
        rw[e];exact hagg i
      . cases hj;have e:(#[Value.agg (enc i).toArray,Value.agg (enc j).toArray]++cb).getD 1 Go.undef=Value.agg (enc j).toArray:=by
         rw[bp,Array.getElem?_append_left (by simp)];rfl
        show Rep _ _ _ ((#[Value.agg (enc i).toArray,Value.agg (enc j).toArray]++cb).getD 1 Go.undef)
        rw[e];exact hagg j
      . have hj' :caps[jj]? =some x:=hj;have:=h2 jj x hj';have e:(#[Value.agg (enc i).toArray,Value.agg (enc j).toArray]++cb).getD (jj+2) Go.undef=cb.getD jj Go.undef:=by
         rw[bp,bp,Array.getElem?_append_right (by simp)];rfl
        rw[e];exact this.mono kp)
    refine(Nf hcall).mono ?_;rintro en w' ⟨⟨u,τ,rfl,hb,_,hu⟩,hd⟩;refine⟨?_,wq hb (hd u rfl)⟩;show Ending.returned u=Ending.returned (.int .i64 (cfN c rows i j))
    rw[rT];cases hu with|d _ _ hu=>cases hu;rfl
   have hcon := AnyQ.slices_SortFunc_eq L k aE zE enc (fun i => uu hxl i) (fun i v hv => by
       obtain⟨j,hj⟩:=cd hv;have hjk:j<k:=by have:=(aq.1 hj).1;rw[uu hxl]at this;exact this
       rw[ur i hjk]at hj;have hlr:=(hrows _ (List.getElem_mem i.2)).1;obtain⟨x,hx⟩:∃x,rows[i][j]? =some x:=⟨_,aj (by rw[show(rows[i]).length=k from hlr];exact hjk)⟩
       obtain⟨_,u,hu,hr⟩:=hxg i j x hx;rw[hj]at hu;cases hu;exact hr.im ((hrows _ (List.getElem_mem i.2)).2 x (ar hx))) (λi j=>cfN c rows i j) hO.swo g cb B 0 cap d w eg hcl hH hBlt (by rw[hdsz];exact hlen)
   rw[hdsz]at hcon;have hsp:=zD hn hO;have hse:nY rows.length (cfN c rows) hn=pdq (ltOf λi j:Fin rows.length=>cfN c rows i j) d 0 rows.length (Lib.bitLen rows.length) true true:=rfl;have hsl:=EL c rows hn;rw[<- hse]at hcon;generalize nY rows.length (cfN c rows) hn=d' at hcon hsp hsl;refine hcon.mono ?_;rintro en w' ⟨rfl,m,os,rfl⟩;have hd's:=hsp.1;have hfs:(flatK enc k d').size=rows.length*k:=by rw[size_flatK,hd's]
   obtain⟨t1,t2⟩:=Cd (flatK enc k d') cur (by rw[hfs,hcs];exact Nat.mul_le_mul_right k hnc);rw[hfs]at t2;have hlr' :(fT c rows).length=rows.length:=(pt hO).length_eq;refine⟨_,(flatK enc k d').toList,⟨rfl,rfl⟩,rfl,rfl,rfl,(keeps m d' os).size,λb hb hne=>qZ enc k w B d' m os hb λh=>hne (by rw[h];rfl),λb hb=> .inl hb,⟨by rw[Array.length_toList,hfs,hlr'],.inr ⟨B,cap,_,by rw[hlr'],Nat.zero_le _,Cg enc k w B d' m os hB,by rw[hlr'];exact hnc,hcm,by rw[t1,hcs],by rw[hlr'];exact t2⟩⟩,λr hr=>hrows r ((pt hO).subset hr),λi r j x hi hj=>?_⟩;rw[hsl,aN]at hi;cases hdi:d'.toList[i]? with
   |none=>rw[hdi]at hi;cases hi
   |some p =>
    rw[hdi]at hi;cases hi;have hil:i<d'.size:=by have:=(aq.1 hdi).1;simpa using this
    have hp:d'[i]=p:=by rw[aW,Array.getElem?_eq_getElem hil]at hdi;exact Option.some.inj hdi
    obtain⟨hjk,u,hu,hr⟩:=hxg p j x hj;refine⟨u,?_,hr⟩;have hf:=GU (xs:=xs) (k:=k) hxl (d:=d') hil hjk;have hlt:i*k+j<(flatK enc k d').size:=by
     rw[size_flatK];have:=Nat.mul_le_mul_right k (show i+1<=d'.size from hil);rw[Nat.add_mul,Nat.one_mul]at this;omega
    rw[aW,Array.getElem?_eq_getElem hlt];rw[getElem!_pos (flatK enc k d') _ hlt,hp]at hf;rw[hf,List.getD_eq_getElem?_getD,hu];rfl
 . obtain rfl:rows=[]:=List.eq_nil_of_length_eq_zero (by omega);obtain⟨p,cap,hv⟩:∃p cap,v= .slice p 0 cap:=by
    rcases hown with ⟨_,⟨e,_⟩|⟨B,cap,cur,e,_⟩⟩
    . exact⟨none,0,e⟩
    . exact⟨_,cap,e⟩
   subst hv;refine(AnyF.slices_SortFunc_none L p cap (.func (.func g) #[] cb) w).mono ?_;rintro en w' ⟨rfl,rfl⟩;exact⟨_,xs,⟨rfl,rfl⟩,rfl,rfl,rfl,Nat.le_refl _,λ_ _ _=>rfl,λ_ h=> .inl h,hown,λr hr=>by simp[BI]at hr,λi r j x hi hj=>by simp[BI]at hi⟩
end NQ
