/-
  One text.
-/
import Derived.Test.YtjojkakjmoefaaaGreatDoorMQn
import Derived.Test.YtjojkakjmoefaaaGreatDoorDrM
import Derived.Shelf.SlSortCmp.WholeK
import Derived.Shelf.SlSortCmp.NoneTotal
set_option linter.all false
set_option maxHeartbeats 2000000
namespace NQ
open Go Go.RowKit Go.Sort Go.Proofs Go.Shelf
def cfN{α:Type}(c:α->α->Int)(l:List α)(i j:Nat):Int:=match l[i]?, l[j]? with|some x,some y=>c x y|_,_=>0
def rD(n:Nat)(D:Nat->Nat->Int)(h:0<n):Array (Fin n) :=
 letI:Inhabited<|Fin n:=⟨⟨0,h⟩⟩
 pdq (ltOf λi j:Fin n=>D i j) (Array.ofFn id) 0 n (Lib.bitLen n) true true
def Zd(n:Nat)(j:Nat->Nat->Int):List Nat:=if h:0<n then(rD n j h).toList.map Fin.val else[]
def iS{α:Type}(c:α->α->Int)(l:List α):List α:=(Zd l.length<|cfN c l).filterMap (l[·]?)
def mU{α:Type}(c:α->α->Int)(l:List α):Prop :=
 (∀x∈l,¬c x x<0)/\(∀x∈l,∀y∈l,∀z∈l,c x y<0->c y z<0->c x z<0)/\(∀x∈l,∀y∈l,∀z∈l,¬c x y<0-> ¬c y z<0-> ¬c x z<0)
variable {α:Type}
def wh{c:α->α->Int}{l:List α}(i j:Fin l.length):cfN c l i j=c l[i] l[j]:=by
 unfold cfN;rw[ao i.2,ao j.2];rfl
def mU.swo{c:α->α->Int}{l:List α}(h:mU c l):SWO (ltOf λi j:Fin l.length=>cfN c l i j):=by
 have m:∀i:Fin l.length,l[i]∈l:=λi=>List.getElem_mem i.2
 refine⟨λx=>?_,λx y z a b=>?_,λx y z a b=>?_⟩
 .have:=h.1 _<|m x;simp only[ltOf,wh,decide_eq_false_iff_not];exact this
 .simp only[ltOf,decide_eq_true_eq,wh]at *;exact h.2.1 _ (m x) _ (m y) _ (m z) a b
 .simp only[ltOf,decide_eq_false_iff_not,wh]at *;exact h.2.2 _ (m x) _ (m y) _ (m z) a b
def EH{c:α->α->Int}{l:List α}(h:0<l.length)(V:mU c l) :
 (rD l.length (cfN c l) h).size=l.length/\(rD l.length (cfN c l) h).toList.Perm (List.finRange l.length)/\(rD l.length (cfN c l) h).toList.Pairwise λi j=> ¬c l[j] l[i]<0:=by
 letI:Inhabited<|Fin l.length:=⟨⟨0,h⟩⟩
 have D:(Array.ofFn (id:Fin l.length->Fin l.length)).size=l.length:=by simp
 have hp:=pdq_sorts (ltOf λi j:Fin l.length=>cfN c l i j) V.swo (Array.ofFn id) 0 l.length (Lib.bitLen l.length) true true (Nat.zero_le _) (by rw[D];exact Nat.le_refl _)<|Or.inl rfl;obtain⟨⟨H,X,J⟩,N⟩:=hp;have e:rD l.length (cfN c l) h=pdq (ltOf λi j:Fin l.length=>cfN c l i j) (Array.ofFn id) 0 l.length (Lib.bitLen l.length) true true:=rfl;rw[<- e]at H X J N;rw[D]at H;generalize rD l.length (cfN c l) h=q at *
 refine⟨H,?_,?_⟩
 .have G:∀{n m:Nat} {q:Array<|Fin n},q.size=m->q.extract 0 m=q:=by rintro n _ q rfl;simp
  have T:=G H;have U:=G D;rw[T,U]at J;refine J.trans<|List.Perm.of_eq ?_;rw[Array.toList_ofFn,List.finRange];rfl
 .rw[List.pairwise_iff_getElem];intro i j W K I;have:=N i j (Nat.zero_le _) I (by rw[<- H];simpa using K);rw[getElem!_pos _ i<|by simpa using W,getElem!_pos _ j<|by simpa using K]at this;simp only[ltOf,wh,decide_eq_false_iff_not]at this;simpa using this
def Lq(c:α->α->Int)(l:List α)(h:0<l.length):iS c l=(rD l.length (cfN c l) h).toList.map λi=>l[i]:=by
 unfold iS Zd;rw[dif_pos h];generalize (rD l.length (cfN c l) h).toList=q;induction q with
 |nil=>rfl
 |cons i q j =>
  rw[List.map_cons,List.filterMap_cons,ao i.2];simp only[List.map_cons];rw[j];rfl
def Hr(c:α->α->Int):iS c ([]:List α)=[]:=rfl
def tm{c:α->α->Int}{l:List α}(j:mU c l):(iS c l).Perm l:=by
 by_cases h:0<l.length
 .rw[Lq c l h];refine((EH h j).2.1.map λi=>l[i]).trans<|List.Perm.of_eq ?_;apply List.ext_getElem
  .simp
  .intro i h1 D;simp
 .obtain rfl:l=[]:=List.eq_nil_of_length_eq_zero (by omega);exact List.Perm.nil
def Hq{β:Type}(f:α->β)(c:α->α->Int)(D :β->β->Int)(l:List α)(h:∀x∈l,∀y∈l,D (f x) (f y)=c x y):iS D (l.map f)=(iS c l).map f:=by
 have e:cfN D (l.map f)=cfN c l:=by
  funext i j
  unfold cfN;rw[bc,bc];cases G:l[i]? with
  |none=>rfl
  |some x =>
   cases H:l[j]? with
   |none=>rfl
   |some y=>exact h x (aw G) y<|aw H
 unfold iS;rw[e,au,List.map_filterMap]
 congr 1
 funext i
 rw[bc]
def mU.map{β:Type}{f:α->β}{c:α->α->Int}{N :β->β->Int}{l:List α}(h:∀x∈l,∀y∈l,N (f x) (f y)=c x y)(I:mU c l):mU N<|l.map f:=by
 refine⟨λx H=>?_,λx H y J z K=>?_,λx H y J z K=>?_⟩
 .obtain⟨a,j,rfl⟩:=List.mem_map.1 H;rw[h a j a j];exact I.1 a j
 .obtain⟨a,j,rfl⟩:=List.mem_map.1 H;obtain⟨b,D,rfl⟩:=List.mem_map.1 J;obtain⟨d,G,rfl⟩:=List.mem_map.1 K;rw[h a j b D,h b D d G,h a j d G];exact I.2.1 a j b D d G
 .obtain⟨a,j,rfl⟩:=List.mem_map.1 H;obtain⟨b,D,rfl⟩:=List.mem_map.1 J;obtain⟨d,G,rfl⟩:=List.mem_map.1 K;rw[h a j b D,h b D d G,h a j d G];exact I.2.2 a j b D d G
def mU.key{c:α->α->Int}{l:List α}(k:α->Int)(h:∀x∈l,∀y∈l,c x y<0 ↔ k x<k y):mU c l :=
 ⟨λx j=>by rw[h x j x j];omega,λx j y D z G=>by rw[h x j y D,h y D z G,h x j z G];omega,λx j y D z G=>by rw[h x j y D,h y D z G,h x j z G];omega⟩
section
variable {k n:Nat} {xs:List Value}
def AB(k:Nat)(xs:List Value)(n:Nat)(i:Fin n):List Value:=(xs.drop<|i*k).take k
def zd(j:xs.length=n*k)(i:Fin n):(AB k xs n i).length=k:=by
 have:=Nat.mul_le_mul_right k (show i.1+1<=n from i.2);rw[Nat.add_mul,Nat.one_mul]at this;simp[AB];omega
def za(i:Fin n){j:Nat}(D:j<k):(AB k xs n i)[j]? =xs[i*k+j]? :=by
 simp[AB,List.getElem?_take,D]
def Pd[Inhabited<|Fin n](J:xs.length=n*k){d:Array<|Fin n}{i j:Nat}(G:i<d.size)(I:j<k):(flatK (AB k xs n) k d)[i*k+j]! =xs.getD (d[i]*k+j) default:=by
 have lt:i*k+j<d.size*k:=by
  have:=Nat.mul_le_mul_right k (show i+1<=d.size from G);rw[Nat.add_mul,Nat.one_mul]at this;omega
 rw[get_flatK _ _ _ _ lt];have D:(i*k+j) / k=i:=(blk_iff k i _<|by omega).1 ⟨by omega,by omega⟩;have H:(i*k+j) % k=j:=by rw[Nat.mod_eq_sub_div_mul,D];omega
 rw[D,H,getElem!_pos d i G];have:=za (xs:=xs) (k:=k) d[i] I;rw[List.getElem!_eq_getElem?_getD,this,List.getD_eq_getElem?_getD]
end
def vn{α:Type}[Inhabited α](enc:α->List Value)(k:Nat)(w:World)(B:Nat)(d:Array α)(m:Nat)(os:Array Obj){b:Nat}(D:b<w.heap.size)(j:b≠B):(sortWorldK enc k w B 0 m d os).heap[b]? =w.heap[b]? :=by
 show((w.heap.modify B _)++os)[b]? =_
 rw[Array.getElem?_append,if_pos<|by simpa using D,Array.getElem?_modify,if_neg<|Ne.symm j]
def Is{α:Type}[Inhabited α](enc:α->List Value)(k:Nat)(w:World)(B:Nat)(d:Array α)(m:Nat)(os:Array Obj){cur:Array Value}{e:TypeId}{j:Nat×Nat}(h:w.heap[B]? =some (.cells cur e j)) :
 (sortWorldK enc k w B 0 m d os).heap[B]? =some (.cells (putCells id 0 (flatK enc k d) cur) e j):=by
 have D:B<w.heap.size:=(bP.1 h).1;show((w.heap.modify B _)++os)[B]? =_
 rw[Array.getElem?_append,if_pos<|by simpa using D,Array.getElem?_modify,if_pos rfl,h];rfl
def Ip(F cur:Array Value)(h:F.size<=cur.size):(putCells id 0 F cur).size=cur.size/\(putCells id 0 F cur).toList.take F.size=F.toList:=by
 have H:(putCells id 0 F cur).size=cur.size:=by simp[putCells]
 refine⟨H,?_⟩;apply List.ext_getElem?;intro j;rw[List.getElem?_take];split
 .rename_i G;have D:j<cur.size:=by omega
  rw[bE,bE];simp[putCells,G,D]
 .rename_i G;rw[bE,Array.getElem?_eq_none<|by omega]
def Lr{cx:Cx}{ρ:Ren}(L:SlLaysF0.n6 cx.P ρ){k:Nat}(aE:∀w,(isAgg<|ρ.t 24).run cx.P w= .ok true w)(zE:∀w,(Go.sizeOf<|ρ.t 24).run cx.P w= .ok k w)(hr:im cx.P<|ρ.f 6){e:TypeId}{g:FuncId}{X:List D}{c:List D->List D->Int}{rows:List<|List D}{fl:Bool}
 (ht:∀x∈rows,∀y∈rows,Fn cx g ([.agg x,.agg y]++X) (.d<|.int .i64<|c x y) []) (eg:∀args w,(callFunc g args).run cx.P w= .ok (.enter g args) w) (hO:mU c rows) (hlen:rows.length<4611686018427387904):FnR cx (ρ.f 6) false e k rows fl [.fn g [] X]<|iS c rows:=by
 refine ZJ ⟨hr,λO w v vs xs ho hG hI hS ha kg hk G hD kb hg=>?_⟩;have kd:vs= #[vs.getD 0 Go.undef]:=by
  apply Array.ext
  .simpa using kb
  .intro i h1 h2;simp at h2;subst h2;simp[h1]
 have hK:=hg 0 _ rfl;rw[kd];generalize vs.getD 0 Go.undef=fv at hK;cases hK with|fn _ _ _ ke cb hE hs h1 h2 _ =>
 have hE:ke= #[]:=Array.eq_empty_of_size_eq_zero hE;subst hE;by_cases hn:0<rows.length
 .rcases ha with ⟨V,⟨_,hz⟩|⟨B,cap,cur,rfl,_,hB,hN,hT,hJ,kc⟩⟩
  .omega
  have hl:B<w.heap.size:=(bP.1 hB).1;have hR:O B:=hS B rfl
  letI:Inhabited<|Fin rows.length:=⟨⟨0,hn⟩⟩
  let enc:=AB k xs rows.length
  let d:Array<|Fin rows.length:=Array.ofFn id
  have J:d.size=rows.length:=by simp[d]
  have hF:∀(i:Fin rows.length) (j:Nat) x,rows[i][j]? =some x->j<k/\ ∃u,xs[i*k+j]? =some u/\Rep w O x u:=λi j x H=>by
   have U:rows[i.1]? =some rows[i]:=ao i.2;have h1:rows[i].length=k:=(G _<|List.getElem_mem i.2).1;exact⟨by have:=(aA.1 H).1;omega,hD i.1 _ j x U H⟩
  have hH:HoldsK enc k w B 0 d:=by
   intro j H;rw[size_flatK]at H;have hX:j<xs.length:=by rw[V, <- J];exact H
   have hq:j / k<d.size:=Nat.div_lt_of_lt_mul (by rw[Nat.mul_comm];exact H);have hm:j % k<k:=Nat.mod_lt _ hk;have he:j / k*k+j % k=j:=by rw[Nat.mul_comm];exact Nat.div_add_mod j k
   have hf:=Pd (xs:=xs) (k:=k) V (d:=d) hq hm;rw[he]at hf;have hU:(d[j / k]:Nat)=j / k:=by simp[d]
   rw[hU,he]at hf;have hc:cur[j]? =some (xs.getD j default):=by
    have:=congrArg (λl:List Value=>l[j]?) kc;simp only[List.getElem?_take,bE]at this;rw[if_pos<|by rw[<- J];exact H]at this;rw[this,List.getD_eq_getElem?_getD,ao hX];rfl
   constructor
   .simp only[World.cell?,hB,Nat.zero_add];show cur[j]? =some ((flatK enc k d)[j]!)
    rw[hf];exact hc
   .simp[World.frozen?,hB]
  have keeps:∀m dk os,bx w (sortWorldK enc k w B 0 m dk os) O O:=λm dk os =>
   ⟨size_sortWorldK_c enc k w B 0 m dk os,λb Y hj=>vn enc k w B dk m os hj λh=>Y<|h ▸ hR,λb Y _=>Y⟩
  have hs:CmpLays cx.P g cb enc k (λi j=>cfN c rows i j) B 0 d.size w:=by
   intro m os dk kf i j;have kp:=keeps m dk os;have hW:jO cx<|sortWorldK enc k w B 0 m dk os:=λgg cells hL=>by
    obtain⟨a1,a2,a3⟩:=hG gg cells hL;refine⟨Nat.lt_of_lt_of_le a1 kp.size,a2,λjj dd hM=>?_⟩;obtain⟨u,W,U⟩:=a3 jj dd hM;exact⟨u,by rw[kp.cell (hI gg cells hL) a1];exact W,U.gP<|aG.1 a2 dd<|aw hM⟩
   have hb:∀i:Fin rows.length,Rep (sortWorldK enc k w B 0 m dk os) O (.agg rows[i])<|.agg (enc i).toArray:=λi=>by
    have h1:=G _<|List.getElem_mem i.2;refine .agg _ _ (by rw[List.size_toArray,zd V];exact h1.1.symm) h1.2 λjj x H=>?_
    obtain⟨T,u,W,U⟩:=hF i jj x H;have:(enc i).toArray.getD jj Go.undef=u:=by
     rw[bU,List.getElem?_toArray,za i T,W];rfl
    rw[this];exact U.mono kp
   have hh:=(ht rows[i] (List.getElem_mem i.2) rows[j] (List.getElem_mem j.2)).2 O (sortWorldK enc k w B 0 m dk os) (#[.agg (enc i).toArray,.agg (enc j).toArray]++cb)
    (λb Y=>Nat.lt_of_lt_of_le (ho b Y) kp.size) hW hI (by simp[hs];omega) (λjj x H=>by
     rcases jj with _|_|jj
     .cases H;have e:(#[Value.agg (enc i).toArray,Value.agg (enc j).toArray]++cb).getD 0 Go.undef=Value.agg (enc i).toArray:=by
       rw[bU,Array.getElem?_append_left<|by simp];rfl
      rw[e];exact hb i
     .cases H;have e:(#[Value.agg (enc i).toArray,Value.agg (enc j).toArray]++cb).getD 1 Go.undef=Value.agg (enc j).toArray:=by
       rw[bU,Array.getElem?_append_left<|by simp];rfl
      show Rep _ _ _<|(#[Value.agg (enc i).toArray,Value.agg (enc j).toArray]++cb).getD 1 Go.undef
      rw[e];exact hb j
     .have hV :X[jj]? =some x:=H;have:=h2 jj x hV;have e:(#[Value.agg (enc i).toArray,Value.agg (enc j).toArray]++cb).getD (jj+2) Go.undef=cb.getD jj Go.undef:=by
       rw[bU,bU,Array.getElem?_append_right<|by simp];rfl
      rw[e];exact this.mono kp)
   refine(Wd hh).mono ?_;rintro en w' ⟨⟨u,τ,rfl,Y,_,W⟩,hd⟩;refine⟨?_,Nl Y<|hd u rfl⟩;show Ending.returned u=Ending.returned (.int .i64<|cfN c rows i j)
   rw[wh];cases W with|d _ _ W=>cases W;rfl
  have I := AnyQ.slices_SortFunc_eq L k aE zE enc (fun i => zd V i) (fun i v hv => by
      obtain⟨j,H⟩:=cO hv;have T:j<k:=by have:=(aA.1 H).1;rw[zd V]at this;exact this
      rw[za i T]at H;have hY:=(G _<|List.getElem_mem i.2).1;obtain⟨x,hx⟩:∃x,rows[i][j]? =some x:=⟨_,ao<|by rw[show(rows[i]).length=k from hY];exact T⟩
      obtain⟨_,u,W,U⟩:=hF i j x hx;rw[H]at W;cases W;exact U.ky<|(G _<|List.getElem_mem i.2).2 x<|aw hx) (λi j=>cfN c rows i j) hO.swo g cb B 0 cap d w eg hs hH hl (by rw[J];exact hlen)
  rw[J]at I;have hQ:=EH hn hO;have ka:rD rows.length (cfN c rows) hn=pdq (ltOf λi j:Fin rows.length=>cfN c rows i j) d 0 rows.length (Lib.bitLen rows.length) true true:=rfl;have hP:=Lq c rows hn;rw[<- ka]at I;generalize rD rows.length (cfN c rows) hn=N at I hQ hP;refine I.mono ?_;rintro en w' ⟨rfl,m,os,rfl⟩;have hy:=hQ.1;have hA:(flatK enc k N).size=rows.length*k:=by rw[size_flatK,hy]
  obtain⟨t1,t2⟩:=Ip (flatK enc k N) cur (by rw[hA,hJ];exact Nat.mul_le_mul_right k hN);rw[hA]at t2;have K :(iS c rows).length=rows.length:=(tm hO).length_eq;refine⟨_,(flatK enc k N).toList,⟨rfl,rfl⟩,rfl,rfl,rfl,(keeps m N os).size,λb Y hZ=>vn enc k w B N m os Y λh=>hZ<|by rw[h];rfl,λb Y=> .inl Y,⟨by rw[Array.length_toList,hA,K],.inr ⟨B,cap,_,by rw[K],Nat.zero_le _,Is enc k w B N m os hB,by rw[K];exact hN,hT,by rw[t1,hJ],by rw[K];exact t2⟩⟩,λr U=>G r<|(tm hO).subset U,λi r j x hi H=>?_⟩;rw[hP,bc]at hi;cases Z:N.toList[i]? with
  |none=>rw[Z]at hi;cases hi
  |some p =>
   rw[Z]at hi;cases hi;have hC:i<N.size:=by have:=(aA.1 Z).1;simpa using this
   have hp:N[i]=p:=by rw[bE,Array.getElem?_eq_getElem hC]at Z;exact Option.some.inj Z
   obtain⟨T,u,W,U⟩:=hF p j x H;refine⟨u,?_,U⟩;have hf:=Pd (xs:=xs) (k:=k) V (d:=N) hC T;have hj:i*k+j<(flatK enc k N).size:=by
    rw[size_flatK];have:=Nat.mul_le_mul_right k (show i+1<=N.size from hC);rw[Nat.add_mul,Nat.one_mul]at this;omega
   rw[bE,Array.getElem?_eq_getElem hj];rw[getElem!_pos (flatK enc k N) _ hj,hp]at hf;rw[hf,List.getD_eq_getElem?_getD,W];rfl
 .obtain rfl:rows=[]:=List.eq_nil_of_length_eq_zero (by omega);obtain⟨p,cap,hv⟩:∃p cap,v= .slice p 0 cap:=by
   rcases ha with ⟨_,⟨e,_⟩|⟨B,cap,cur,e,_⟩⟩
   .exact⟨none,0,e⟩
   .exact⟨_,cap,e⟩
  subst hv;refine(AnyF.slices_SortFunc_none L p cap (.func (.func g) #[] cb) w).mono ?_;rintro en w' ⟨rfl,rfl⟩;exact⟨_,xs,⟨rfl,rfl⟩,rfl,rfl,rfl,Nat.le_refl _,λ_ _ _=>rfl,λ_ h=> .inl h,ha,λr U=>by simp[Hr]at U,λi r j x hi H=>by simp[Hr]at hi⟩
