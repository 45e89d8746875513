/-
  One text.
-/
import Derived.Test.YtodofogcincleaaGreatDoorMQn
import Derived.Test.YtodofogcincleaaGreatDoorDrM
import Derived.Shelf.SlSortCmp.WholeK
import Derived.Shelf.SlSortCmp.NoneTotal
set_option linter.all false
set_option maxHeartbeats 2000000
namespace NQ
open Go Go.RowKit Go.Sort Go.Proofs Go.Shelf
def cfN{α:Type}(c:α->α->Int)(l:List α)(i j:Nat):Int:=match l[i]?, l[j]? with|some x,some y=>c x y|_,_=>0
def oS(n:Nat)(cf:Nat->Nat->Int)(h:0<n):Array (Fin n) :=
 letI:Inhabited (Fin n):=⟨⟨0,h⟩⟩
 pdq (ltOf λi j:Fin n=>cf i j) (Array.ofFn id) 0 n (Lib.bitLen n) true true
def RY(n:Nat)(cf:Nat->Nat->Int):List Nat:=if h:0<n then(oS n cf h).toList.map Fin.val else[]
def gS{α:Type}(c:α->α->Int)(l:List α):List α:=(RY l.length (cfN c l)).filterMap (l[·]?)
def lu{α:Type}(c:α->α->Int)(l:List α):Prop :=
 (∀x∈l,¬c x x<0)/\(∀x∈l,∀y∈l,∀z∈l,c x y<0->c y z<0->c x z<0)/\(∀x∈l,∀y∈l,∀z∈l,¬c x y<0-> ¬c y z<0-> ¬c x z<0)
theorem sR{α:Type}{c:α->α->Int}{l:List α}(i j:Fin l.length):cfN c l i j=c l[i] l[j]:=by
 unfold cfN;rw[au i.2,au j.2];rfl
theorem lu.swo{α:Type}{c:α->α->Int}{l:List α}(h:lu c l):SWO (ltOf λi j:Fin l.length=>cfN c l i j):=by
 have m:∀i:Fin l.length,l[i]∈l:=λi=>List.getElem_mem i.2
 refine⟨λx=>?_,λx y z a b=>?_,λx y z a b=>?_⟩
 .have:=h.1 _ (m x);simp only[ltOf,sR,decide_eq_false_iff_not];exact this
 .simp only[ltOf,decide_eq_true_eq,sR]at *;exact h.2.1 _ (m x) _ (m y) _ (m z) a b
 .simp only[ltOf,decide_eq_false_iff_not,sR]at *;exact h.2.2 _ (m x) _ (m y) _ (m z) a b
theorem Bf{α:Type}{c:α->α->Int}{l:List α}(h:0<l.length)(hc:lu c l) :
 (oS l.length (cfN c l) h).size=l.length/\(oS l.length (cfN c l) h).toList.Perm (List.finRange l.length)/\(oS l.length (cfN c l) h).toList.Pairwise λi j=> ¬c l[j] l[i]<0:=by
 letI:Inhabited (Fin l.length):=⟨⟨0,h⟩⟩
 have hJ:(Array.ofFn (id:Fin l.length->Fin l.length)).size=l.length:=by simp
 have hp:=pdq_sorts (ltOf λi j:Fin l.length=>cfN c l i j) hc.swo (Array.ofFn id) 0 l.length (Lib.bitLen l.length) true true (Nat.zero_le _) (by rw[hJ];exact Nat.le_refl _) (Or.inl rfl);obtain⟨⟨p1,p2,p3⟩,p4⟩:=hp;have e:oS l.length (cfN c l) h=pdq (ltOf λi j:Fin l.length=>cfN c l i j) (Array.ofFn id) 0 l.length (Lib.bitLen l.length) true true:=rfl;rw[<- e]at p1 p2 p3 p4;rw[hJ]at p1;generalize oS l.length (cfN c l) h=q at *
 refine⟨p1,?_,?_⟩
 .have aux:∀{n m:Nat} {q:Array (Fin n)},q.size=m->q.extract 0 m=q:=by rintro n _ q rfl;simp
  have a1:=aux p1;have a2:=aux hJ;rw[a1,a2]at p3;refine p3.trans (List.Perm.of_eq ?_);rw[Array.toList_ofFn,List.finRange];rfl
 .rw[List.pairwise_iff_getElem];intro i j hi hj kl;have:=p4 i j (Nat.zero_le _) kl (by rw[<- p1];simpa using hj);rw[getElem!_pos _ i (by simpa using hi),getElem!_pos _ j (by simpa using hj)]at this;simp only[ltOf,sR,decide_eq_false_iff_not]at this;simpa using this
theorem Gu{α:Type}(c:α->α->Int)(l:List α)(h:0<l.length):gS c l=(oS l.length (cfN c l) h).toList.map λi=>l[i]:=by
 unfold gS RY;rw[dif_pos h];generalize (oS l.length (cfN c l) h).toList=q;induction q with
 |nil=>rfl
 |cons i q ih =>
  rw[List.map_cons,List.filterMap_cons,au i.2];simp only[List.map_cons];rw[ih];rfl
theorem Dg{α:Type}(c:α->α->Int):gS c ([]:List α)=[]:=rfl
theorem nW{α:Type}{c:α->α->Int}{l:List α}(hc:lu c l):(gS c l).Perm l:=by
 by_cases h:0<l.length
 .rw[Gu c l h];refine((Bf h hc).2.1.map λi=>l[i]).trans (List.Perm.of_eq ?_);apply List.ext_getElem
  .simp
  .intro i h1 h2;simp
 .obtain rfl:l=[]:=List.eq_nil_of_length_eq_zero (by omega);exact List.Perm.nil
theorem Df{α β:Type}(f:α->β)(c:α->α->Int)(c' :β->β->Int)(l:List α)(h:∀x∈l,∀y∈l,c' (f x) (f y)=c x y):gS c' (l.map f)=(gS c l).map f:=by
 have e:cfN c' (l.map f)=cfN c l:=by
  funext i j
  unfold cfN;rw[bc,bc];cases hi:l[i]? with
  |none=>rfl
  |some x =>
   cases hj:l[j]? with
   |none=>rfl
   |some y=>exact h x (aD hi) y (aD hj)
 unfold gS;rw[e,aA,List.map_filterMap]
 congr 1
 funext i
 rw[bc]
theorem lu.map{α β:Type}{f:α->β}{c:α->α->Int}{c' :β->β->Int}{l:List α}(h:∀x∈l,∀y∈l,c' (f x) (f y)=c x y)(hc:lu c l):lu c' (l.map f):=by
 refine⟨λx hx=>?_,λx hx y hy z hz=>?_,λx hx y hy z hz=>?_⟩
 .obtain⟨a,ha,rfl⟩:=List.mem_map.1 hx;rw[h a ha a ha];exact hc.1 a ha
 .obtain⟨a,ha,rfl⟩:=List.mem_map.1 hx;obtain⟨b,hb,rfl⟩:=List.mem_map.1 hy;obtain⟨d,hd,rfl⟩:=List.mem_map.1 hz;rw[h a ha b hb,h b hb d hd,h a ha d hd];exact hc.2.1 a ha b hb d hd
 .obtain⟨a,ha,rfl⟩:=List.mem_map.1 hx;obtain⟨b,hb,rfl⟩:=List.mem_map.1 hy;obtain⟨d,hd,rfl⟩:=List.mem_map.1 hz;rw[h a ha b hb,h b hb d hd,h a ha d hd];exact hc.2.2 a ha b hb d hd
theorem lu.key{α:Type}{c:α->α->Int}{l:List α}(k:α->Int)(h:∀x∈l,∀y∈l,c x y<0 ↔ k x<k y):lu c l :=
 ⟨λx hx=>by rw[h x hx x hx];omega,λx hx y hy z hz=>by rw[h x hx y hy,h y hy z hz,h x hx z hz];omega,λx hx y hy z hz=>by rw[h x hx y hy,h y hy z hz,h x hx z hz];omega⟩
section
variable {k n:Nat} {xs:List Value}
def xj(k:Nat)(xs:List Value)(n:Nat)(i:Fin n):List Value:=(xs.drop (i*k)).take k
theorem vF(hx:xs.length=n*k)(i:Fin n):(xj k xs n i).length=k:=by
 have:=Nat.mul_le_mul_right k (show i.1+1<=n from i.2);rw[Nat.add_mul,Nat.one_mul]at this;simp[xj];omega
theorem vE(i:Fin n){j:Nat}(hj:j<k):(xj k xs n i)[j]? =xs[i*k+j]? :=by
 simp[xj,List.getElem?_take,hj]
theorem Jh[Inhabited (Fin n)](hx:xs.length=n*k){d:Array (Fin n)}{i j:Nat}(hi:i<d.size)(hj:j<k):(flatK (xj k xs n) k d)[i*k+j]! =xs.getD (d[i]*k+j) default:=by
 have lt:i*k+j<d.size*k:=by
  have:=Nat.mul_le_mul_right k (show i+1<=d.size from hi);rw[Nat.add_mul,Nat.one_mul]at this;omega
 rw[get_flatK _ _ _ _ lt];have e1:(i*k+j) / k=i:=(blk_iff k i _ (by omega)).1 ⟨by omega,by omega⟩;have e2:(i*k+j) % k=j:=by rw[Nat.mod_eq_sub_div_mul,e1];omega
 rw[e1,e2,getElem!_pos d i hi];have:=vE (xs:=xs) (k:=k) d[i] hj;rw[List.getElem!_eq_getElem?_getD,this,List.getD_eq_getElem?_getD]
end
theorem rX{α:Type}[Inhabited α](enc:α->List Value)(k:Nat)(w:World)(B:Nat)(d:Array α)(m:Nat)(os:Array Obj){b:Nat}(hb:b<w.heap.size)(hU:b≠B):(sortWorldK enc k w B 0 m d os).heap[b]? =w.heap[b]? :=by
 show((w.heap.modify B _)++os)[b]? =_
 rw[Array.getElem?_append,if_pos (by simpa using hb),Array.getElem?_modify,if_neg (Ne.symm hU)]
theorem DE{α:Type}[Inhabited α](enc:α->List Value)(k:Nat)(w:World)(B:Nat)(d:Array α)(m:Nat)(os:Array Obj){cur:Array Value}{e:TypeId}{fr:Nat×Nat}(h:w.heap[B]? =some (.cells cur e fr)) :
 (sortWorldK enc k w B 0 m d os).heap[B]? =some (.cells (putCells id 0 (flatK enc k d) cur) e fr):=by
 have hb:B<w.heap.size:=(bI.1 h).1;show((w.heap.modify B _)++os)[B]? =_
 rw[Array.getElem?_append,if_pos (by simpa using hb),Array.getElem?_modify,if_pos rfl,h];rfl
theorem DB(F cur:Array Value)(h:F.size<=cur.size):(putCells id 0 F cur).size=cur.size/\(putCells id 0 F cur).toList.take F.size=F.toList:=by
 have hs:(putCells id 0 F cur).size=cur.size:=by simp[putCells]
 refine⟨hs,?_⟩;apply List.ext_getElem?;intro j;rw[List.getElem?_take];split
 .rename_i hj;have kn:j<cur.size:=by omega
  rw[bx,bx];simp[putCells,hj,kn]
 .rename_i hj;rw[bx,Array.getElem?_eq_none (by omega)]
theorem Gv{cx:Cx}{ρ:Ren}(L:SlLaysF0.n6 cx.P ρ){k:Nat}(aE:∀w,(isAgg (ρ.t 24)).run cx.P w= .ok true w)(zE:∀w,(Go.sizeOf (ρ.t 24)).run cx.P w= .ok k w)(hN:gq cx.P (ρ.f 6)){e:TypeId}{g:FuncId}{ht:List D}{c:List D->List D->Int}{rows:List (List D)}{fl:Bool}
 (hQ:∀x∈rows,∀y∈rows,Fn cx g ([.agg x,.agg y]++ht) (.d (.int .i64 (c x y))) []) (eg:∀args w,(callFunc g args).run cx.P w= .ok (.enter g args) w) (hO:lu c rows) (hlen:rows.length<4611686018427387904):FnR cx (ρ.f 6) false e k rows fl [.fn g [] ht] (gS c rows):=by
 refine Sz ⟨hN,λO w v vs xs hM hG hZ ki hA kx hk hg hV hJ hF=>?_⟩;have kt:vs= #[vs.getD 0 Go.undef]:=by
  apply Array.ext
  .simpa using hJ
  .intro i h1 h2;simp at h2;subst h2;simp[h1]
 have kb:=hF 0 _ rfl;rw[kt];generalize vs.getD 0 Go.undef=fv at kb;cases kb with|fn _ _ _ ku cb hX hP h1 h2 _ =>
 have hX:ku= #[]:=Array.eq_empty_of_size_eq_zero hX;subst hX;by_cases hn:0<rows.length
 .rcases hA with ⟨hD,⟨_,hz⟩|⟨B,cap,cur,rfl,_,hB,ke,kj,ka,ks⟩⟩
  .omega
  have hL:B<w.heap.size:=(bI.1 hB).1;have kh:O B:=ki B rfl
  letI:Inhabited (Fin rows.length):=⟨⟨0,hn⟩⟩
  let enc:=xj k xs rows.length
  let d:Array (Fin rows.length):=Array.ofFn id
  have hl:d.size=rows.length:=by simp[d]
  have hY:∀(i:Fin rows.length) (j:Nat) x,rows[i][j]? =some x->j<k/\ ∃u,xs[i*k+j]? =some u/\Rep w O x u:=λi j x hj=>by
   have hr:rows[i.1]? =some rows[i]:=au i.2;have h1:rows[i].length=k:=(hg _ (List.getElem_mem i.2)).1;exact⟨by have:=(aB.1 hj).1;omega,hV i.1 _ j x hr hj⟩
  have hH:HoldsK enc k w B 0 d:=by
   intro j hj;rw[size_flatK]at hj;have ko:j<xs.length:=by rw[hD, <- hl];exact hj
   have hq:j / k<d.size:=Nat.div_lt_of_lt_mul (by rw[Nat.mul_comm];exact hj);have hm:j % k<k:=Nat.mod_lt _ hk;have he:j / k*k+j % k=j:=by rw[Nat.mul_comm];exact Nat.div_add_mod j k
   have hf:=Jh (xs:=xs) (k:=k) hD (d:=d) hq hm;rw[he]at hf;have kk:(d[j / k]:Nat)=j / k:=by simp[d]
   rw[kk,he]at hf;have hc:cur[j]? =some (xs.getD j default):=by
    have:=congrArg (λl:List Value=>l[j]?) ks;simp only[List.getElem?_take,bx]at this;rw[if_pos (by rw[<- hl];exact hj)]at this;rw[this,List.getD_eq_getElem?_getD,au ko];rfl
   constructor
   .simp only[World.cell?,hB,Nat.zero_add];show cur[j]? =some ((flatK enc k d)[j]!)
    rw[hf];exact hc
   .simp[World.frozen?,hB]
  have keeps:∀m dk os,bw w (sortWorldK enc k w B 0 m dk os) O O:=λm dk os =>
   ⟨size_sortWorldK_c enc k w B 0 m dk os,λb hb hK=>rX enc k w B dk m os hK λh=>hb (h ▸ kh),λb hb _=>hb⟩
  have hP:CmpLays cx.P g cb enc k (λi j=>cfN c rows i j) B 0 d.size w:=by
   intro m os dk kv i j;have kp:=keeps m dk os;have hW:jC cx (sortWorldK enc k w B 0 m dk os):=λgg cells kc=>by
    obtain⟨a1,a2,a3⟩:=hG gg cells kc;refine⟨Nat.lt_of_lt_of_le a1 kp.size,a2,λjj dd kd=>?_⟩;obtain⟨u,hu,hr⟩:=a3 jj dd kd;exact⟨u,by rw[kp.cell (hZ gg cells kc) a1];exact hu,hr.fG (aI.1 a2 dd (aD kd))⟩
   have hE:∀i:Fin rows.length,Rep (sortWorldK enc k w B 0 m dk os) O (.agg rows[i]) (.agg (enc i).toArray):=λi=>by
    have h1:=hg _ (List.getElem_mem i.2);refine .agg _ _ (by rw[List.size_toArray,vF hD];exact h1.1.symm) h1.2 λjj x hj=>?_
    obtain⟨hC,u,hu,hr⟩:=hY i jj x hj;have:(enc i).toArray.getD jj Go.undef=u:=by
     rw[bM,List.getElem?_toArray,vE i hC,hu];rfl
    rw[this];exact hr.mono kp
   have hI:=(hQ rows[i] (List.getElem_mem i.2) rows[j] (List.getElem_mem j.2)).2 O (sortWorldK enc k w B 0 m dk os) (#[.agg (enc i).toArray,.agg (enc j).toArray]++cb)
    (λb hb=>Nat.lt_of_lt_of_le (hM b hb) kp.size) hW hZ (by simp[hP];omega) (λjj x hj=>by
     rcases jj with _|_|jj
     .cases hj;have e:(#[Value.agg (enc i).toArray,Value.agg (enc j).toArray]++cb).getD 0 Go.undef=Value.agg (enc i).toArray:=by
       rw[bM,Array.getElem?_append_left (by simp)];rfl
      rw[e];exact hE i
     .cases hj;have e:(#[Value.agg (enc i).toArray,Value.agg (enc j).toArray]++cb).getD 1 Go.undef=Value.agg (enc j).toArray:=by
       rw[bM,Array.getElem?_append_left (by simp)];rfl
      show Rep _ _ _ ((#[Value.agg (enc i).toArray,Value.agg (enc j).toArray]++cb).getD 1 Go.undef)
      rw[e];exact hE j
     .have km :ht[jj]? =some x:=hj;have:=h2 jj x km;have e:(#[Value.agg (enc i).toArray,Value.agg (enc j).toArray]++cb).getD (jj+2) Go.undef=cb.getD jj Go.undef:=by
       rw[bM,bM,Array.getElem?_append_right (by simp)];rfl
      rw[e];exact this.mono kp)
   refine(Pr hI).mono ?_;rintro en w' ⟨⟨u,τ,rfl,hb,_,hu⟩,hd⟩;refine⟨?_,Hk hb (hd u rfl)⟩;show Ending.returned u=Ending.returned (.int .i64 (cfN c rows i j))
   rw[sR];cases hu with|d _ _ hu=>cases hu;rfl
  have hh := AnyQ.slices_SortFunc_eq L k aE zE enc (fun i => vF hD i) (fun i v hv => by
      obtain⟨j,hj⟩:=cQ hv;have hC:j<k:=by have:=(aB.1 hj).1;rw[vF hD]at this;exact this
      rw[vE i hC]at hj;have kq:=(hg _ (List.getElem_mem i.2)).1;obtain⟨x,hx⟩:∃x,rows[i][j]? =some x:=⟨_,au (by rw[show(rows[i]).length=k from kq];exact hC)⟩
      obtain⟨_,u,hu,hr⟩:=hY i j x hx;rw[hj]at hu;cases hu;exact hr.jd ((hg _ (List.getElem_mem i.2)).2 x (aD hx))) (λi j=>cfN c rows i j) hO.swo g cb B 0 cap d w eg hP hH hL (by rw[hl];exact hlen)
  rw[hl]at hh;have kg:=Bf hn hO;have kr:oS rows.length (cfN c rows) hn=pdq (ltOf λi j:Fin rows.length=>cfN c rows i j) d 0 rows.length (Lib.bitLen rows.length) true true:=rfl;have kf:=Gu c rows hn;rw[<- kr]at hh;generalize oS rows.length (cfN c rows) hn=d' at hh kg kf;refine hh.mono ?_;rintro en w' ⟨rfl,m,os,rfl⟩;have hR:=kg.1;have hS:(flatK enc k d').size=rows.length*k:=by rw[size_flatK,hR]
  obtain⟨t1,t2⟩:=DB (flatK enc k d') cur (by rw[hS,ka];exact Nat.mul_le_mul_right k ke);rw[hS]at t2;have ho :(gS c rows).length=rows.length:=(nW hO).length_eq;refine⟨_,(flatK enc k d').toList,⟨rfl,rfl⟩,rfl,rfl,rfl,(keeps m d' os).size,λb hb hU=>rX enc k w B d' m os hb λh=>hU (by rw[h];rfl),λb hb=> .inl hb,⟨by rw[Array.length_toList,hS,ho],.inr ⟨B,cap,_,by rw[ho],Nat.zero_le _,DE enc k w B d' m os hB,by rw[ho];exact ke,kj,by rw[t1,ka],by rw[ho];exact t2⟩⟩,λr hr=>hg r ((nW hO).subset hr),λi r j x hi hj=>?_⟩;rw[kf,bc]at hi;cases hdi:d'.toList[i]? with
  |none=>rw[hdi]at hi;cases hi
  |some p =>
   rw[hdi]at hi;cases hi;have hT:i<d'.size:=by have:=(aB.1 hdi).1;simpa using this
   have hp:d'[i]=p:=by rw[bx,Array.getElem?_eq_getElem hT]at hdi;exact Option.some.inj hdi
   obtain⟨hC,u,hu,hr⟩:=hY p j x hj;refine⟨u,?_,hr⟩;have hf:=Jh (xs:=xs) (k:=k) hD (d:=d') hT hC;have hK:i*k+j<(flatK enc k d').size:=by
    rw[size_flatK];have:=Nat.mul_le_mul_right k (show i+1<=d'.size from hT);rw[Nat.add_mul,Nat.one_mul]at this;omega
   rw[bx,Array.getElem?_eq_getElem hK];rw[getElem!_pos (flatK enc k d') _ hK,hp]at hf;rw[hf,List.getD_eq_getElem?_getD,hu];rfl
 .obtain rfl:rows=[]:=List.eq_nil_of_length_eq_zero (by omega);obtain⟨p,cap,hv⟩:∃p cap,v= .slice p 0 cap:=by
   rcases hA with ⟨_,⟨e,_⟩|⟨B,cap,cur,e,_⟩⟩
   .exact⟨none,0,e⟩
   .exact⟨_,cap,e⟩
  subst hv;refine(AnyF.slices_SortFunc_none L p cap (.func (.func g) #[] cb) w).mono ?_;rintro en w' ⟨rfl,rfl⟩;exact⟨_,xs,⟨rfl,rfl⟩,rfl,rfl,rfl,Nat.le_refl _,λ_ _ _=>rfl,λ_ h=> .inl h,hA,λr hr=>by simp[Dg]at hr,λi r j x hi hj=>by simp[Dg]at hi⟩
end NQ
