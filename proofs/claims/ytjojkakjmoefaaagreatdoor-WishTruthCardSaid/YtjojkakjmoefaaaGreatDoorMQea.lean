/-
  Merged texts.
-/
import Derived.Test.YtjojkakjmoefaaaGreatDoorQeM
import Derived.MapKept
set_option linter.all false

namespace NQ
open Go Go.RowKit
def fq.rep{w:World}{O:Nat->Prop}{d:D}{v:Value}(h:fq d v):Rep w O d v:=by
 cases d<;>simp only[fq]at h
 .subst h;exact .int _ _
 .subst h;exact .bool _
 .obtain⟨b,rfl,j⟩:=h;exact .str _ b j
def pP{w:World}{O:Nat->Prop}{d:D}{v:Value}(h:Rep w O d v)(j:d.gP=true):fq d v:=by
 cases h<;>first|rfl|(cases j;done)|(exact⟨_,rfl,by assumption⟩)
def jc:List K->List D->Bool
 |[],[]=>true
 | .str::j,.str _::cs=>jc j cs
 | .bool::j,.bool _::cs=>jc j cs
 | .int k::j,.int G _::cs=>decide (k=G)&&jc j cs
 |_,_=>false
def zl:∀{j:List K} {cs:List D},jc j cs=true->cs.length=j.length/\ ∀d∈cs,d.gP=true
 |[],[],_=>⟨rfl,λd h=>by cases h⟩
 |[],_::_,h=>by cases h
 |k::j,[],h=>by cases k<;>simp[jc]at h
 |k::j,c::cs,h=>by
  have key:jc j cs=true->c.gP=true->(c::cs).length=(k::j).length/\ ∀d∈c::cs,d.gP=true:=λh I=>by
   obtain⟨h1,H⟩:=zl h;refine⟨by simp[h1],λd G=>?_⟩;rcases List.mem_cons.1 G with rfl|G
   .exact I
   .exact H d G
  cases k<;>cases c<;>simp[jc]at h
  .exact key h.2 rfl
  .exact key h rfl
  .exact key h rfl
def qm(j:List K)(kc:List D):List (List D×D)->Option (Option D)
 |[]=>some none
 |(k,v)::t=>(match dO j (kc.map .d) (k.map .d)with|some true=>some<|some v|some false=>qm j kc t|none=>none)
def AG(j:List K)(kc:List D)(x:D):List (List D×D)->Option (List<|List D×D)
 |[]=>some [(kc,x)]
 |(k,v)::t=>(match dO j (kc.map .d) (k.map .d)with|some true=>some<|(kc,x)::t|some false=>(AG j kc x t).map ((k,v):: ·)|none=>none)
def kJ(x:D):List D->Option Bool
 |[.tuple [y]]=>(match x,y with
  | .int k a,.int j b=>(match decide (k=j)with|true=>some<|a==b|false=>none)
  | .str a,.str b=>some<|a==b
  |_,_=>none)
 |_=>none
def qx(x:D):List (List D×D)->Option (Option D)
 |[]=>some none
 |(k,v)::t=>(match kJ x k with|some true=>some<|some v|some false=>qx x t|none=>none)
def AW(x v:D):List (List D×D)->Option (List<|List D×D)
 |[]=>some [([.tuple [x]],v)]
 |(k,j)::t=>(match kJ x k with|some true=>some<|([.tuple [x]],v)::t|some false=>(AW x v t).map ((k,j):: ·)|none=>none)
def mc(eq:List D->Option Bool):List (List D×D)->Option (Option D)
 |[]=>some none
 |(k,v)::t=>(match eq k with|some true=>some<|some v|some false=>mc eq t|none=>none)
def mT(eq:List D->Option Bool)(kc:List D)(x:D):List (List D×D)->Option (List<|List D×D)
 |[]=>some [(kc,x)]
 |(k,v)::t=>(match eq k with|some true=>some<|(kc,x)::t|some false=>(mT eq kc x t).map ((k,v):: ·)|none=>none)
def Cz(j:List K)(kc:List D):∀m,qm j kc m=mc (λk=>dO j (kc.map .d)<|k.map .d) m
 |[]=>rfl
 |(k,v)::t=>by simp only[qm,mc];split<;>first|rfl|exact Cz j kc t
def FE(j:List K)(kc:List D)(x:D):∀m,AG j kc x m=mT (λk=>dO j (kc.map .d)<|k.map .d) kc x m
 |[]=>rfl
 |(k,v)::t=>by simp only[AG,mT];split<;>first|rfl|(rw[FE j kc x t])
def CI(x:D):∀m,qx x m=mc (kJ x) m
 |[]=>rfl
 |(k,v)::t=>by simp only[qx,mc];split<;>first|rfl|exact CI x t
def FY(x v:D):∀m,AW x v m=mT (kJ x) [.tuple [x]] v m
 |[]=>rfl
 |(k,j)::t=>by simp only[AW,mT];split<;>first|rfl|(rw[FY x v t])
def uW{eq:List D->Option Bool}{kc:List D}{x:D}:∀{m:List<|List D×D},mc eq m=some none->mT eq kc x m=some (m++[(kc,x)])
 |[],_=>rfl
 |(k,v)::t,h=>by
  simp only[mc]at h;simp only[mT];split at h
  .cases h
  .rename_i e;simp only[e,uW h,Option.map_some,List.cons_append]
  .cases h
def DH{j:List K}{kc:List D}{x:D}{m:List<|List D×D}(h:qm j kc m=some none):AG j kc x m=some (m++[(kc,x)]):=by
 rw[FE];rw[Cz]at h;exact uW h
def Sa{x v:D}{m:List<|List D×D}(h:qx x m=some none):AW x v m=some (m++[([.tuple [x]],v)]):=by
 rw[FY];rw[CI]at h;exact uW h
def zG{eq:List D->Option Bool}{kc:List D}{x:D}:∀{m j :List<|List D×D},mT eq kc x m=some j -> ∃r,mc eq m=some r
 |[],_,_=>⟨_,rfl⟩
 |(k,v)::t,j,h=>by
  simp only[mT]at h;simp only[mc];split at h
  .exact⟨_,rfl⟩
  .cases hp:mT eq kc x t with
   |none=>rw[hp]at h;cases h
   |some t' =>exact zG hp
  .cases h
section
variable {P:Program} {w:World}
def lY(em:Bool)(n:Nat)(xs:Array Value):List Field->Sem Unit
 |[]=>pure ()
 |f::j=>if f.name≠ "_" then(do let a <- part f.type xs f.offset;Instr.checkKey em n f.type a;lY em n xs j)else lY em n xs j
def yC(em:Bool)(n:Nat){t:TypeId}{j:Array Field}(xs:Array Value)(D:P.underlying t=some (.struct j)):(Instr.checkKey em (n+1) t<|.agg xs).run P w=(lY em n xs j.toList).run P w:=by
 rw[Instr.checkKey];simp only[Sem.run_bind,run_underlying D,Result.andThen_ok];rw[<- Array.forIn_toList];generalize j.toList=l;clear D;induction l generalizing w with
 |nil=>simp[lY]
 |cons f l G =>
  simp only[List.forIn_cons,lY,Sem.run_bind,Sem.run_ite];split
  .generalize (part f.type xs f.offset).run P w=I
   cases I with
   |ok a H =>
    simp only[Result.andThen_ok];generalize (Instr.checkKey em n f.type a).run P H=J;cases J with
    |ok b K =>
     simp only[Result.andThen_ok,Sem.run_pure];exact G
    |halt x K=>simp[Result.andThen]
   |halt x H=>simp[Result.andThen]
  .simp only[Sem.run_pure,Result.andThen_ok];exact G
def uH{em:Bool}{n:Nat}{xs:Array Value}:∀(l:List Field) (I:List K) (i:Nat) (cs:List D),l.length=I.length ->
 (∀(j:Nat) f k,l[j]? =some f->I[j]? =some k->f.offset=i+j/\f.name≠ "_" /\ ∃H,P.underlying f.type=some H/\kindOf H=k)->jc I cs=true ->
 (∀(j:Nat) c,cs[j]? =some c-> ∃u,xs[i+j]? =some u/\fq c u)->(lY em (n+1) xs l).run P w= .ok () w
 |[],_,_,_,_,_,_,_=>by simp[lY]
 |_::_,[],_,_,X,_,_,_=>by simp at X
 |f::l,k::I,i,[],_,_,J,_=>by cases k<;>simp[jc]at J
 |f::l,k::I,i,c::cs,X,Z,J,hx=>by
  obtain⟨ho,hn,H,V,N⟩:=Z 0 f k rfl rfl;obtain⟨u,Y,U⟩:=hx 0 c rfl;have step:(kindOf H).isAgg=false->(Instr.checkKey em (n+1) f.type u).run P w= .ok () w->jc I cs=true->(lY em (n+1) xs<|f::l).run P w= .ok () w:=λW hc T=>by
   have ih:=uH (em:=em) (n:=n) (xs:=xs) l I (i+1) cs (by simpa using X) (λj f' k' h1 h2=>by
    obtain⟨a1,a2⟩:=Z (j+1) f' k' h1 h2;exact⟨by omega,a2⟩) T (λj c h=>by
    obtain⟨u,Y,U⟩:=hx (j+1) c h;exact⟨u,by rw[<- Y];congr 1;omega,U⟩)
   have hp:=CF (w:=w) V W (xs:=xs) (o:=f.offset) (v:=u) (by rw[ho];exact Y);simp only[lY,if_pos hn,Sem.run_bind,hp,Result.andThen_ok,hc];exact ih
  cases k<;>cases c<;>simp[jc]at J
  .rename_i k1 k2 m;refine step (by rw[N];rfl) ?_ J.2;have G :=V;rw[ql N]at G;obtain rfl:=U;simp[Instr.checkKey,run_underlying G]
  .refine step (by rw[N];rfl) ?_ J;have G :=V;rw[vN N]at G;obtain rfl:=U;simp[Instr.checkKey,run_underlying G]
  .refine step (by rw[N];rfl) ?_ J;have G :=V;rw[ga N]at G;obtain⟨b,rfl,_⟩:=U;simp[Instr.checkKey,run_underlying G]
def GS{cs:List D}{vs:Array Value}(I:vs.size=cs.length)(h:∀(j:Nat) d,cs[j]? =some d->fq d (vs.getD j Go.undef))(j:Nat)(c:D)(H:cs[j]? =some c):∃u,vs[0+j]? =some u/\fq c u:=by
 have G:j<vs.size:=by rw[I];exact(aA.1 H).1
 refine⟨vs[j],by rw[Nat.zero_add];exact Array.getElem?_eq_getElem G,?_⟩;have:=h j c H;simpa [bU,G] using this
def TA{j:List K}{d:D}:jc j [.tuple [d]]=false:=by
 cases j with
 |nil=>rfl
 |cons k j=>cases k<;>rfl
def Cy{I:List K}{kc:List D}(G:jc I kc=true){u:Value}(H:oF kc u):∃vs:Array Value,u= .agg vs/\vs.size=kc.length/\ ∀(j:Nat) d,kc[j]? =some d->fq d (vs.getD j undef):=by
 rcases H with ⟨d,rfl,_⟩|h
 .rw[TA]at G;cases G
 .exact h
def zg:∀{H:List K} {cs ds:List D} {b:Bool},jc H cs=true->dO H (cs.map .d) (ds.map .d)=some b->jc H ds=true/\(b=true->cs=ds)
 |[],[],[],b,_,h=>⟨rfl,λ_=>rfl⟩
 |[],_::_,_,b,_,h=>by simp[dO]at h
 |[],[],_::_,b,_,h=>by simp[dO]at h
 |k::H,[],ds,b,_,h=>by cases k<;>simp[dO]at h
 |k::H,c::cs,[],b,_,h=>by cases k<;>cases c<;>simp[dO]at h
 |k::H,c::cs,d::ds,b,G,h=>by
  cases k<;>cases c<;>simp only[jc,eV,aK,decide_eq_true_eq]at G
  all_goals cases d<;>simp only[List.map_cons,dO]at h<;>first|(cases h;done)|skip
  .rename_i U V n W X;obtain⟨rfl,G⟩:=G;split at h
   .rename_i r N T;obtain⟨I,J⟩:=zg G T;have N:=of_decide_eq_true N;subst N;cases h;refine⟨by simp[jc,I],λj=>?_⟩;simp only[aK,beq_iff_eq]at j;rw[j.1,J j.2]
   .cases h
  .split at h
   .rename_i r e;obtain⟨I,J⟩:=zg G e;cases h;refine⟨by simp[jc,I],λj=>?_⟩;simp only[aK,beq_iff_eq]at j;rw[j.1,J j.2]
   .cases h
  .split at h
   .rename_i r e;obtain⟨I,J⟩:=zg G e;cases h;refine⟨by simp[jc,I],λj=>?_⟩;simp only[aK,beq_iff_eq]at j;rw[j.1,J j.2]
   .cases h
def Jz{I:TypeId}{H:List K}(W:BY P I H){kc:List D}(G:jc H kc=true){u:Value}(Y:oF kc u)(em:Bool):(Instr.checkKey em 10000 I u).run P w= .ok () w:=by
 obtain⟨U,J,f2,f3,N,T⟩:=W;obtain⟨vs,rfl,X,Z⟩:=Cy G Y;rw[yC em 9999 vs J];exact uH (n:=9998) U.toList H 0 kc N (λj f k h1 V=>by rw[Nat.zero_add];exact T j f k h1 V) G<|GS X Z
def GD{J:TypeId}{N:List K}(he:BY P J N){kc k:List D}(G:jc N kc=true){u v:Value}(W:oF kc u)(hv:oF k v){b:Bool}(Z:dO N (kc.map .d) (k.map .d)=some b):(Op.equal J u v).run P w= .ok b w:=by
 obtain⟨Y,X,f2,f3,f4,f5⟩:=he;obtain⟨xs,rfl,U,hx⟩:=Cy G W;obtain⟨ys,rfl,V,hy⟩:=Cy (zg G Z).1 hv;have cell:∀{cs:List D} {xs:Array Value},xs.size=cs.length->(∀(j:Nat) d,cs[j]? =some d->fq d (xs.getD j Go.undef))-> ∀(j:Nat) c,(cs.map AV.d)[j]? =some c-> ∃u,xs[0+j]? =some u/\aC w (λ_=>False) (λ_=>False) (λ_=> .nilFunc) c u:=λ{cs xs} hl h j c hj=>by
  rw[bc]at hj;cases T:cs[j]? with
  |none=>rw[T]at hj;cases hj
  |some d =>
   rw[T]at hj;cases hj;obtain⟨u,W,hf⟩:=GS hl h j d T;exact⟨u,W,.d _ _ hf.rep⟩
 have I:=zf (P:=P) (w:=w) (n:=9998) Y.toList N 0 _ _ b f4 (λj f k h1 h2=>by rw[Nat.zero_add];exact f5 j f k h1 h2) Z (cell U hx)<|cell V hy;have H:P.fieldsOf J=Y:=by unfold Program.fieldsOf;rw[X]
 show(Op.equalIn 10000 J (.agg xs)<|.agg ys).run P w= .ok b w
 rw[run_equalIn_struct w 9999 J xs ys (by rw[H];exact X) f2,H];exact I
structure oK(P:Program)(kt:TypeId)(kc:List D)(eq:List D->Option Bool)(u:Value):Prop where
 key:oF kc u
 chk:∀(em:Bool) (w:World),(Instr.checkKey em 10000 kt u).run P w= .ok () w
 find:∀(w:World) (R:D->Value->Prop) (m:List (List D×D)) (es:List MapEntry) (r:Option D),es.length=m.length ->
  (∀(j:Nat) k v,m[j]? =some (k,v)-> ∃e:MapEntry,es[j]? =some e/\oF k e.key/\R v e.val)->mc eq m=some r ->
  (r=none/\(Instr.findKey kt u es).run P w= .ok none w)\/ ∃j k v e,r=some v/\m[j]? =some (k,v)/\es[j]? =some e/\(Instr.findKey kt u es).run P w= .ok (some (j,e.val)) w/\R v e.val/\Instr.sameBits 10000 e.key u=true/\ ∀x,mT eq kc x m=some (m.set j (kc,x))
def zm{d:D}{u v:Value}(j:fq d u)(G:fq d v)(n:Nat):Instr.sameBits n u v=true:=by
 cases d<;>simp only[fq]at j G
 .subst j;subst G;simp[Instr.sameBits]
 .subst j;subst G;simp[Instr.sameBits]
 .obtain⟨b,rfl,H⟩:=j;obtain⟨c,rfl,I⟩:=G;have:b=c:=by
   have:b.data=c.data:=by rw[<- Array.toList_inj];rw[H,I]
   cases b;cases c;simp_all
  subst this;simp only[Instr.sameBits];exact(MapKept.bytes_beq b b).2 rfl
def Xh{k:List D}{u v:Value}(H:oF k u)(G:oF k v):Instr.sameBits 10000 u v=true:=by
 rcases H with ⟨d,rfl,H⟩|⟨xs,rfl,T,N⟩
 .rcases G with ⟨V,e,G⟩|⟨ys,rfl,U,I⟩
  .cases e;exact zm H G _
  .exact(I 0 _ rfl).elim
 .rcases G with ⟨V,rfl,G⟩|⟨ys,rfl,U,I⟩
  .exact(N 0 _ rfl).elim
  .simp only[Instr.sameBits,aK,beq_iff_eq,aG];refine⟨T.trans U.symm,λp hp=>?_⟩;obtain⟨i,Z⟩:=cO hp;obtain⟨a,b,K,Y,e⟩:=List.getElem?_zip_eq_some.1 Z |> λh=>(⟨p.1,p.2,h.1,h.2,rfl⟩:∃a b,xs.toList[i]? =some a/\ys.toList[i]? =some b/\(a,b)=p)
   have j:i<k.length:=by rw[<- T];have:=(aA.1 K).1;simpa using this
   have h1:=N i _<|ao j;have J:=I i _<|ao j;have W:xs.getD i Go.undef=p.1:=by rw[bU, <- bE,K];exact congrArg Prod.fst e
   have X:ys.getD i Go.undef=p.2:=by rw[bU, <- bE,Y];exact congrArg Prod.snd e
   rw[W]at h1;rw[X]at J;exact zm h1 J _
def wq{T:TypeId}{V:List K}(X:BY P T V){kc:List D}(G:jc V kc=true){u:Value}(U:oF kc u){R:D->Value->Prop}:∀(m:List<|List D×D) (es:List MapEntry) (i:Nat) (r:Option D),es.length=m.length ->
 (∀(j:Nat) k v,m[j]? =some (k,v)-> ∃e:MapEntry,es[j]? =some e/\oF k e.key/\R v e.val)->mc (λk=>dO V (kc.map .d)<|k.map .d) m=some r ->
 (r=none/\(Instr.findAsking T u es i).run P w= .ok none w)\/ ∃j k v e,r=some v/\m[j]? =some (k,v)/\es[j]? =some e/\(Instr.findAsking T u es i).run P w= .ok (some (i+j,e.val)) w/\R v e.val/\Instr.sameBits 10000 e.key u=true/\ ∀x,mT (λk=>dO V (kc.map .d)<|k.map .d) kc x m=some (m.set j (kc,x))
 |[],es,i,r,J,_,H=>by
  obtain rfl:es=[]:=List.eq_nil_of_length_eq_zero J;cases H;exact .inl ⟨rfl,by simp[Instr.findAsking]⟩
 |(k,v)::m,[],i,r,J,_,_=>by simp at J
 |(k,v)::m,e::es,i,r,J,h,H=>by
  obtain⟨W,Y,Z,hv⟩:=h 0 k v rfl;obtain rfl:e=W :=by simpa using Y
  simp only[mc]at H;split at H
  .rename_i I;cases H;have kz:=(zg G I).2 rfl;exact .inr ⟨0,k,v,e,rfl,rfl,rfl,by simp[Instr.findAsking,GD (w:=w) X G U Z I],hv,Xh Z<|kz ▸ U,λx=>by simp[mT,I]⟩
  .rename_i I;have N:(Instr.findAsking T u (e::es) i).run P w=(Instr.findAsking T u es<|i+1).run P w:=by simp[Instr.findAsking,GD (w:=w) X G U Z I]
   rw[N];rcases wq X G U m es (i+1) r (by simpa using J) (λj k v hj=>h (j+1) k v hj) H with g|⟨j,k',v',W,g1,g2,g3,g4,g5,g6,g7⟩
   .exact .inl g
   .exact .inr ⟨j+1,k',v',W,g1,by simpa using g2,by simpa using g3,by rw[g4,show i+1+j=i+(j+1) by omega],g5,g6,λx=>by simp[mT,I,g7 x]⟩
  .cases H
def Bv{j:TypeId}{H:List K}(G:BY P j H)(u:Value)(es:List MapEntry):(Instr.findKey j u es).run P w=(Instr.findAsking j u es).run P w:=by
 obtain⟨I,D,_⟩:=G;cases es with
 |nil=>simp[Instr.findKey,run_underlying D,Instr.findNow,Instr.findAsking]
 |cons e es=>simp[Instr.findKey,run_underlying D,Instr.findNow,Instr.sameNow]
def oK.struct{U:TypeId}{T:List K}(H:BY P U T){kc:List D}(G:jc T kc=true){u:Value}(N:oF kc u):oK P U kc (λk=>dO T (kc.map .d)<|k.map .d) u:=by
 refine⟨N,λem w=>Jz H G N em,λw R m es r hl h hf=>?_⟩;rcases wq (w:=w) H G N m es 0 r hl h hf with ⟨I,J⟩|⟨j,k',v',V,I,J,W,X,Y,Z,g7⟩
 .exact .inl ⟨I,by rw[Bv H];exact J⟩
 .exact .inr ⟨j,k',v',V,I,J,W,by rw[Bv H,X,Nat.zero_add],Y,Z,g7⟩
def tx(d:TypeDesc):D->Prop
 | .int k _=>d= .int k
 | .str _=>d= .string
 |_=>False
def KD{x y:D}{b:Bool}{j:TypeDesc}(I:tx j x){u v:Value}(G:fq x u)(H:fq y v)(h:kJ x [.tuple [y]]=some b):Instr.sameNow j u v=some b/\(b=true->x=y):=by
 cases x<;>simp only[tx]at I
 .rename_i k n;cases y<;>simp only[kJ]at h<;>first|(cases h;done)|skip
  split at h
  .rename_i e;have e:=of_decide_eq_true e;subst e;cases h;simp only[fq]at G H;subst G;subst H;subst I;refine⟨by simp[Instr.sameNow],λh=>?_⟩;rw[beq_iff_eq]at h;rw[h]
  .cases h
 .rename_i s;cases y<;>simp only[kJ]at h<;>first|(cases h;done)|skip
  rename_i t;cases h;simp only[fq]at G H;obtain⟨p,rfl,hp⟩:=G;obtain⟨q,rfl,J⟩:=H;subst I;refine⟨?_,λh=>by rw[beq_iff_eq]at h;rw[h]⟩;simp only[Instr.sameNow]
  congr 1
  rw[Bool.eq_iff_iff,MapKept.bytes_beq,beq_iff_eq];constructor
  .rintro rfl;rw[<- hp, <- J]
  .intro e;have:p.data=q.data:=by rw[<- Array.toList_inj];rw[hp,J,e]
   cases p;cases q;simp_all
def Bw{x:D}{G:TypeDesc}(W:tx G x){u:Value}(U:fq x u){R:D->Value->Prop}:∀(m:List<|List D×D) (es:List MapEntry) (i:Nat) (r:Option D),es.length=m.length ->
 (∀(j:Nat) k v,m[j]? =some (k,v)-> ∃e:MapEntry,es[j]? =some e/\oF k e.key/\R v e.val)->mc (kJ x) m=some r ->
 (r=none/\Instr.findNow G u es i=some none)\/ ∃j k v e,r=some v/\m[j]? =some (k,v)/\es[j]? =some e/\Instr.findNow G u es i=some (some (i+j,e.val))/\R v e.val/\Instr.sameBits 10000 e.key u=true/\ ∀z,mT (kJ x) [.tuple [x]] z m=some (m.set j ([.tuple [x]],z))
 |[],es,i,r,N,_,J=>by
  obtain rfl:es=[]:=List.eq_nil_of_length_eq_zero N;cases J;exact .inl ⟨rfl,rfl⟩
 |(k,v)::m,[],i,r,N,_,_=>by simp at N
 |(k,v)::m,e::es,i,r,N,h,J=>by
  obtain⟨V,X,hk,hv⟩:=h 0 k v rfl;obtain rfl:e=V :=by simpa using X
  have I:∀b,kJ x k=some b-> ∃y,k=[.tuple [y]]/\fq y e.key:=λb H=>by
   rcases hk with ⟨y,K,J⟩|⟨vs,h1,h2,h3⟩
   .exact⟨y,K,J⟩
   .unfold kJ at H;split at H
    .exact(h3 0 _ rfl).elim
    .cases H
  simp only[mc]at J;split at J
  .rename_i H;obtain⟨y,rfl,K⟩:=I _ H;obtain⟨Y,Z⟩:=KD W U K H;obtain rfl:=Z rfl;cases J;exact .inr ⟨0,_,v,e,rfl,rfl,rfl,by simp[Instr.findNow,Y],hv,zm K U _,λz=>by simp[mT,H]⟩
  .rename_i H;obtain⟨y,rfl,K⟩:=I _ H;obtain⟨Y,Z⟩:=KD W U K H;have T:Instr.findNow G u (e::es) i=Instr.findNow G u es (i+1):=by simp[Instr.findNow,Y]
   rw[T];rcases Bw W U m es (i+1) r (by simpa using N) (λj k v hj=>h (j+1) k v hj) J with g|⟨j,k',v',V,g1,g2,g3,g4,g5,g6,g7⟩
   .exact .inl g
   .exact .inr ⟨j+1,k',v',V,g1,by simpa using g2,by simpa using g3,by rw[g4,show i+1+j=i+(j+1) by omega],g5,g6,λx=>by simp[mT,H,g7 x]⟩
  .cases J
def oK.flat{U:TypeId}{G:TypeDesc}(N:P.underlying U=some G){x:D}(I:tx G x){u:Value}(H:fq x u):oK P U [.tuple [x]] (kJ x) u:=by
 refine⟨.inl ⟨x,rfl,H⟩,λem w=>?_,λw R m es r hl h hf=>?_⟩
 .refine MapKept.run_checkKey (n:=9999) N ?_ _;cases x<;>simp only[tx]at I
  .simp only[fq]at H;subst H;subst I;rfl
  .simp only[fq]at H;obtain⟨b,rfl,_⟩:=H;subst I;trivial
 .rcases Bw I H m es 0 r hl h hf with ⟨J,K⟩|⟨j,k',v',V,J,K,W,T,X,Y,Z⟩
  .exact .inl ⟨J,MapKept.run_findKey N K⟩
  .rw[Nat.zero_add]at T;exact .inr ⟨j,k',v',V,J,K,W,MapKept.run_findKey N T,X,Y,Z⟩
end

section
variable {P:Program} {w:World} {O L:Nat->Prop} {σ:Nat->Value}
def Ka(cx:Cx)(t:TypeId)(x:AV)(f:Nat):Option AV :=
 match x,cx.ty t with
 | .agg cs,some ⟨_,_,.struct j,_⟩=>(match j[f]? with|some (off,D)=>ym cx D<|cs.drop off|none=>none)
 |_,_=>none
def XP{cx:Cx}(U:bC cx){t:TypeId}{cs:List AV}{vs:Array Value}{off:Nat}{r:AV}(h:ym cx t (cs.drop off)=some r)(Z:vs.size=cs.length)
 (K:∀j c,cs[j]? =some c->aC w O L σ c (vs.getD j Go.undef)):∃z,(part t vs off).run cx.P w= .ok z w/\aC w O L σ r z:=by
 unfold ym at h;split at h
 .rename_i i V;obtain⟨T,X⟩:=dU (w:=w) U V;split at h
  .rename_i D;split at h
   .rename_i I;cases h;have I:i.size<=cs.length-off:=by simpa using bA I
    refine⟨.agg<|vs.extract off<|off+i.size,by simp[part,T,D,X],.agg _ _ (by simp;omega) λj c H=>?_⟩;rw[List.getElem?_take]at H;split at H
    .rename_i G;rw[List.getElem?_drop]at H;have W :off+j<vs.size:=by have:=(aA.1 H).1;omega
     have:(vs.extract off<|off+i.size).getD j Go.undef=vs.getD (off+j) Go.undef:=by
      simp[Array.getElem?_extract,G];rw[if_pos<|by omega]
     rw[this];exact K _ c H
    .cases H
   .cases h
  .rename_i D;split at h
   .cases h
   .rename_i c tl Y J;cases h;have N:cs[off]? =some r:=by
     have:=congrArg (λl=>l[0]?) J;simpa [List.getElem?_drop] using this
    have G:off<vs.size:=by have:=(aA.1 N).1;omega
    refine⟨vs[off],?_,?_⟩
    .simp[part,T,D,G]
    .have:=K off r N;simpa [G] using this
   .cases h
 .cases h
def QI{cx:Cx}(J:bC cx){t:TypeId}{x r:AV}{f:Nat}(h:Ka cx t x f=some r){u:Value}(Y:aC w O L σ x u) :
 ∃z,(Instr.field t u f).run cx.P w= .ok z w/\aC w O L σ r z:=by
 unfold Ka at h;split at h
 .rename_i cs fs _ X;split at h
  .rename_i off ft j;obtain⟨K,I,z,h1,N,T,_⟩:=J t _ X;obtain⟨g,rfl,rfl⟩:=sw T;rw[bc]at j;cases G:g.toList[f]? with
   |none=>rw[G]at j;cases j
   |some D =>
    rw[G]at j;cases j;have H :g[f]? =some D:=by rw[<- bE];exact G
    cases Y with|agg _ vs V U =>
     obtain⟨z,Z,W⟩:=XP J h V U;exact⟨z,by simp[Instr.field,run_underlying N,H,asAgg,Z],W⟩
  .cases h
 .cases h
def Co(x:AV)(i:Nat):Option AV :=
 match x with
 | .tuple vs=>(match vs[i]? with|some .undef=>none|some v=>some v|none=>none)
 |_=>none
def JY{x r:AV}{i:Nat}(h:Co x i=some r){u:Value}(I:aC w O L σ x u):∃z,(Instr.extract u i).run P w= .ok z w/\aC w O L σ r z:=by
 unfold Co at h;split at h
 .rename_i vs;cases I with|tuple _ us J G =>
   have D:vs[i]? =some r:=by
    split at h
    .cases h
    .rename_i v _ H;cases h;exact H
    .cases h
   have j:i<us.size:=by have:=(aA.1 D).1;omega
   refine⟨us[i],by simp[Instr.extract,j],?_⟩;have:=G i r D;simpa [j] using this
 .cases h
def Qv(cx:Cx)(j dst:TypeId)(x:AV):Option AV :=
 match cx.ty j,cx.ty dst,x with
 |some _,some ⟨_,_,.int k,_⟩,.d (.int _ n)=>some<|.d<|.int k<|k.wrap n
 |some _,some ⟨_,_,.str,_⟩,.d (.str s)=>some<|.d<|.str s
 |_,_,_=>none
def Tk{cx:Cx}(D:bC cx){j dst:TypeId}{x r:AV}(h:Qv cx j dst x=some r){u:Value}(N:aC w O L σ x u) :
 ∃z,(convert j dst u).run cx.P w= .ok z w/\aC w O L σ r z:=by
 unfold Qv at h;split at h
 .rename_i J I;obtain⟨_,_,_,_,K,_⟩:=D _ _ J;obtain⟨_,_,_,_,G,H,_⟩:=D _ _ I;obtain rfl:=ql H;obtain rfl:=N.int;cases h;exact⟨_,by simp[convert,run_underlying K,run_underlying G,Conv.intToInt],.mkInt _ _⟩
 .rename_i J I;obtain⟨_,_,_,_,K,_⟩:=D _ _ J;obtain⟨_,_,_,_,G,H,_⟩:=D _ _ I;obtain rfl:=ga H;obtain⟨b,rfl,rfl⟩:=N.str;cases h;exact⟨_,by simp[convert,run_underlying K,run_underlying G],.mkStr _⟩
 .cases h
def aC.JW{sz:Nat}{rows:List<|List D}{v:Value}(h:aC w O L σ (.d<|.slice sz rows) v):∃a cap,v= .slice a rows.length cap/\rows.length<=cap /\
 ∀(i:Nat) r,rows[i]? =some r-> ∃B off,a=some ⟨B,off,none⟩/\aC w O L σ (.d<|.ptr r) (.pointer<|some ⟨B,off+i*sz,none⟩):=by
 cases h with|d _ _ h=>cases h with
 |empty=>exact⟨_,_,rfl,Nat.zero_le _,λi r h=>by simp at h⟩
 |slice _ _ B off n cap us U K J N T h1 I =>
  subst U;refine⟨_,cap,rfl,N,λi r G=>⟨B,off,rfl,.d _ _ (.ptr r B _ (us i) K J (T r<|aw G).2 (λj d H=>h1 i r j d G H) λj d H=>I i r j d G H)⟩⟩
def Cu{cx:Cx}(I:bC cx){t e:TypeId}{K H:TI}(W:cx.ty t=some K)(U:K.kind= .slice e)(N:cx.ty e=some H){rows:List<|List D}{u:Value}(X:aC w O L σ (.d<|.slice H.size rows) u)
 {k:IntKind} {i:Int} (h0:0<=i) {row:List D} (j:rows[i.toNat]? =some row):∃z,(Instr.indexAt t u<|.int k i).run cx.P w= .ok z w/\aC w O L σ (.d<|.ptr row) z:=by
 obtain⟨a,cap,rfl,_,T⟩:=X.JW;obtain⟨B,off,rfl,V⟩:=T _ _ j;obtain⟨_,_,_,_,Z,J,_⟩:=I _ _ W;rw[U]at J;obtain rfl:=cd J;obtain⟨_,Y⟩:=dU (w:=w) I N;have G:i<rows.length:=by have:=(aA.1 j).1;omega
 exact⟨_,by simp[Instr.indexAt,asIntOf,run_underlying Z,h0,G,Y,dx],V⟩
def Ii{cx:Cx}(H:bC cx){t e:TypeId}{J j:TI}(V:cx.ty t=some J)(U:J.kind= .slice e)(T:cx.ty e=some j){s n:Nat}{F:Nat->Prop}{xs:List Value}{u:Value}(W:aC w O L σ (.own s) u)
 {Z:TypeId} (N:w.ownsRow 0 Z j.size (σ s) n xs)
 {k:IntKind} {i:Int} (h0:0<=i) (hi:i.toNat<n):∃z,(Instr.indexAt t u<|.int k i).run cx.P w= .ok z w/\aC w O L σ (.dy s j.size i.toNat 0) z:=by
 cases W with|own _ K =>
  obtain⟨_,_,_,_,Y,I,_⟩:=H _ _ V;rw[U]at I;obtain rfl:=cd I;obtain⟨_,X⟩:=dU (w:=w) H T;rcases N.2 with ⟨_,rfl⟩|⟨g,cap,cur,G,_⟩
  .omega
  .have D:i<n:=by omega
   refine⟨.pointer<|some ⟨g,0+(i.toNat*j.size+0),none⟩,?_,.dy s _ _ _ g n cap 0 K G⟩;rw[G];simp[Instr.indexAt,asIntOf,run_underlying Y,h0,D,X,dx]
def DD{cx:Cx}(D:bC cx){t e:TypeId}{H j:TI}(U:cx.ty t=some H){n:Nat}(N:H.kind= .array n e)(J:cx.ty e=some j){x r:AV}{u:Value}(V:aC w O L σ x u)
 {k:IntKind} {i:Int} (h0:0<=i) (K:i<n) (I:Jb x (i.toNat*j.size)=some r):∃z,(Instr.indexAt t u<|.int k i).run cx.P w= .ok z w/\aC w O L σ r z:=by
 obtain⟨_,_,_,_,X,G,_⟩:=D _ _ U;rw[N]at G;obtain rfl:=zC G;obtain⟨_,W⟩:=dU (w:=w) D J;obtain⟨b,o,rfl,T⟩:=Jc I V;exact⟨_,by simp[Instr.indexAt,asIntOf,run_underlying X,h0,K,W,dx,Instr.sureAddr],T⟩
def TV{cx:Cx}(G:bC cx){t:TypeId}{D:TI}(K:cx.ty t=some D)(J:D.kind= .str){s:List UInt8}{u:Value}(N:aC w O L σ (.d<|.str s) u)
 {k:IntKind} {i:Int} (h0:0<=i) {c:UInt8} (I:s[i.toNat]? =some c):∃z,(Instr.index t u<|.int k i).run cx.P w= .ok z w/\aC w O L σ (.d<|.int .u8 c.toNat) z:=by
 obtain⟨_,_,_,_,T,j,_⟩:=G _ _ K;rw[J]at j;obtain rfl:=ga j;obtain⟨b,rfl,rfl⟩:=N.str;have H:b[i.toNat]? =some c:=by
  obtain⟨h,e⟩:=aA.1 I;have h' :i.toNat<b.size:=by simpa using h
  rw[getElem?_pos b i.toNat h', <- e];rfl
 exact⟨_,by simp[Instr.index,asIntOf,run_underlying T,h0,H],.mkInt _ _⟩
end

section
variable {P:Program} {w:World} {O L:Nat->Prop} {σ:Nat->Value}
def bnd(j:Nat):Option AV->Option Int
 |none=>some j
 |some (.d<|.int _ n)=>some n
 |_=>none
def Zs{o:Option AV}{v:Option Value}(G:∀x,o=some x-> ∃u,v=some u/\aC w O L σ x u)(D:o=none->v=none){j:Nat}{i:Int}(h:bnd j o=some i) :
 (v=none/\i=j)\/ ∃k,v=some (.int k i):=by
 unfold bnd at h;split at h
 .cases h;exact .inl ⟨D rfl,rfl⟩
 .rename_i k n;cases h;obtain⟨u,rfl,H⟩:=G _ rfl;exact .inr ⟨k,by rw[H.int]⟩
 .cases h
def vl(b:Bool)(len cap:Nat)(U:len<=cap){D j:Option Value}{l h:Int}(N:(D=none/\l=(0:Nat))\/ ∃k,D=some (.int k l))(K:(j=none/\h=len)\/ ∃k,j=some (.int k h))
 (h0:0<=l) (h1:l<=h) (T:h<=len):(Instr.sliceBounds b len cap D j none).run P w= .ok (l.toNat,h.toNat,cap) w:=by
 have G:h<=cap:=by omega
 have H:0<=h:=by omega
 have I:l<=(h.toNat:Int):=by omega
 rcases N with ⟨rfl,rfl⟩|⟨X,rfl⟩<;>rcases K with ⟨rfl,rfl⟩|⟨W,rfl⟩
 .simp[Instr.sliceBounds]
 .simp[Instr.sliceBounds,Instr.sliceBound,asIntOf,H,G]
 .have J:l<=(len:Int):=by omega
  simp[Instr.sliceBounds,Instr.sliceBound,asIntOf,h0,J]
 .simp[Instr.sliceBounds,Instr.sliceBound,asIntOf,H,G,h0,I];intro V;exfalso;omega
def ZC{cx:Cx}(N:bC cx){t:TypeId}{K:TI}(W:cx.ty t=some K)(T:K.kind= .str){s:List UInt8}{u:Value}(X:aC w O L σ (.d<|.str s) u){G j:Option Value}{l h:Int}
 (U:(G=none/\l=(0:Nat))\/ ∃k,G=some (.int k l)) (I:(j=none/\h=s.length)\/ ∃k,j=some (.int k h)) (h0:0<=l) (h1:l<=h) (H:h<=s.length) :
 ∃z,(Instr.sliceAt t u G j none).run cx.P w= .ok z w/\aC w O L σ (.d<|.str<|(s.drop l.toNat).take<|h.toNat-l.toNat) z:=by
 obtain⟨_,_,_,_,Y,J,_⟩:=N _ _ W;rw[T]at J;obtain rfl:=ga J;obtain⟨b,rfl,rfl⟩:=X.str;have D:b.data.toList.length=b.size:=by simp
 rw[D]at I H;have V:=vl (P:=cx.P) (w:=w) false b.size b.size (Nat.le_refl _) U I h0 h1 H;refine⟨.string<|b.extract l.toNat h.toNat,by simp[Instr.sliceAt,run_underlying Y,Instr.slice,V],.d _ _<|.str _ _ ?_⟩;rw[ByteArray.data_extract,Array.toList_extract,List.extract_eq_take_drop]
def Qy{cx:Cx}(X:bC cx){t e:TypeId}{ti I:TI}(ht:cx.ty t=some ti)(hk:ti.kind= .slice e)(K:cx.ty e=some I){rows:List<|List D}{u:Value}(J:aC w O L σ (.d<|.slice I.size rows) u){V G:Option Value}{l h:Int}
 (hl:(V=none/\l=(0:Nat))\/ ∃k,V=some (.int k l)) (hh:(G=none/\h=rows.length)\/ ∃k,G=some (.int k h)) (h0:0<=l) (h1:l<=h) (W:h<=rows.length) :
 ∃z,(Instr.sliceAt t u V G none).run cx.P w= .ok z w/\aC w O L σ (.d<|.slice I.size<|(rows.drop l.toNat).take<|h.toNat-l.toNat) z:=by
 obtain⟨_,_,_,_,t2,Z,_⟩:=X _ _ ht;rw[hk]at Z;obtain rfl:=cd Z;obtain⟨_,r2⟩:=dU (w:=w) X K;obtain⟨a,cap,rfl,Y,_⟩:=J.JW;have hs:=vl (P:=cx.P) (w:=w) true rows.length cap Y hl hh h0 h1 W;refine⟨.slice (if cap=l.toNat then a else a.map (·.add (l.toNat*I.size))) (h.toNat-l.toNat)<|cap-l.toNat,by simp[Instr.sliceAt,run_underlying t2,Instr.slice,hs,r2],?_⟩;by_cases K:h.toNat-l.toNat=0
 .rw[K,List.take_zero];exact .d _ _<|.empty _ _ _
 .have U:cap≠l.toNat:=by omega
  rw[if_neg U];cases J with|d _ _ J=>cases J with
  |empty=>simp at W;omega
  |slice _ _ B off n _ us hn hO hB Y T g1 g2 =>
   rw[show Option.map (λx:Addr=>x.add<|l.toNat*I.size) (some ⟨B,off,none⟩)=some ⟨B,off+l.toNat*I.size,none⟩ by simp[dx]];have H:∀(i:Nat) r,((rows.drop l.toNat).take<|h.toNat-l.toNat)[i]? =some r->rows[l.toNat+i]? =some r:=λi r G=>by
    rw[List.getElem?_take]at G;split at G
    .rwa [List.getElem?_drop]at G
    .cases G
   refine .d _ _ (.slice _ _ B _ _ _ (λi j=>us (l.toNat+i) j) ?_ hO hB ?_ (λr hr=>T r<|List.mem_of_mem_drop<|List.mem_of_mem_take hr) (λi r j d G N=>?_) λi r j d G N=>g2 _ r j d (H i r G) N)
   .simp;omega
   .omega
   .have:=g1 _ r j d (H i r G) N;rw[Nat.add_mul]at this;rw[<- this];congr 2;omega
def cellsOf:AV->Option (List AV)
 | .agg cs=>some cs
 | .undef| .tuple _=>none
 | .d x=>(match x.one with|true=>some [.d x]|false=>none)
 |v=>some [v]
def kZ{x:AV}{cs:List AV}(h:cellsOf x=some cs)(T:∀s,L s->(σ s).oneCell' =true){u:Value}(H:aC w O L σ x u) :
 u.cells.size=cs.length/\ ∀j c,cs[j]? =some c->aC w O L σ c (u.cells.getD j Go.undef):=by
 have single:∀{x:AV} {u:Value},u.oneCell' =true->aC w O L σ x u->u.cells.size=[x].length/\ ∀j c,[x][j]? =some c->aC w O L σ c (u.cells.getD j Go.undef):=by
  intro x u h1 H;have:u.cells= #[u]:=by cases u<;>first|rfl|cases h1
  rw[this];refine⟨rfl,λj c K=>?_⟩;rcases j with _|j
  .cases K;exact H
  .simp at K
 cases H with
 |undef=>cases h
 |agg U vs I X=>cases h;exact⟨I,X⟩
 |tuple=>cases h
 |d x v N =>
  simp only[cellsOf]at h;split at h
  .rename_i h1;cases h;exact single (N.ky h1)<|.d x _ N
  .cases h
 |nil sz=>cases h;exact single rfl<|.nil sz
 |ptr s off b D h' =>cases h;exact single rfl<|.ptr s off b D h'
 |own s D=>cases h;exact single (T s D)<|.own s D
 |dy s size i off b n cap J D h' =>cases h;exact single rfl<|.dy s size i off b n cap J D h'
 |tl s size i b n cap J D h' =>cases h;exact single rfl<|.tl s size i b n cap J D h'
 |omap s D=>cases h;exact single (T s D)<|.omap s D
 |maybe p b W=>cases h;exact single rfl<|.maybe p b W
 |fn f first G xs vs H I h1 V=>cases h;exact single rfl<|.fn f first G xs vs H I h1 V
def over(cells:List AV)(off:Nat)(cs:List AV):List AV:=cells.take off++cs++cells.drop (off+cs.length)
def KU{cells cs:List AV}{off:Nat}(h:off+cs.length<=cells.length)(j:Nat):(over cells off cs)[j]? =if off<=j/\j<off+cs.length then cs[j-off]? else cells[j]? :=by
 unfold over;have D:(cells.take off).length=off:=by simp;omega
 by_cases h1:j<off
 .rw[if_neg<|by omega,List.append_assoc,dm<|by omega,List.getElem?_take,if_pos h1]
 .by_cases G:j<off+cs.length
  .rw[if_pos ⟨by omega,G⟩,List.append_assoc,cL<|by omega,D,dm<|by omega]
  .rw[if_neg<|by omega,cL<|by simp;omega,List.getElem?_drop]
   congr 1;simp;omega
def BF{cells cs:List AV}{off:Nat}(h:off+cs.length<=cells.length):(over cells off cs).length=cells.length:=by
 unfold over;simp;omega
def GL(vs:List Value):∀(cells:Array Value) (off k:Nat) (j:Nat),off+k+vs.length<=cells.size ->
 ((vs.zipIdx k).foldl (λcs (p:Value×Nat)=>cs.setIfInBounds (off+p.2) p.1) cells).size=cells.size /\
 ((vs.zipIdx k).foldl (λcs (p:Value×Nat)=>cs.setIfInBounds (off+p.2) p.1) cells).getD j Go.undef=if off+k<=j/\j<off+k+vs.length then vs.getD (j-(off+k)) Go.undef else cells.getD j Go.undef:=by
 induction vs with
 |nil=>intro cells off k j _;simp;intro h1 D;omega
 |cons v t I =>
  intro cells off k j G;simp only[List.zipIdx_cons,List.foldl_cons];simp only[List.length_cons]at G;have:=I (cells.setIfInBounds (off+k) v) off (k+1) j (by simp;omega);refine⟨by rw[this.1];simp,?_⟩;rw[this.2];by_cases h1:j=off+k
  .subst h1;rw[if_neg<|by omega,if_pos<|by simp];simp[show off+k<cells.size by omega]
  .by_cases D:off+k<=j/\j<off+k+(t.length+1)
   .rw[if_pos<|by omega,if_pos<|by simpa using D];obtain⟨m,H⟩:∃m,j-(off+k)=m+1:=⟨j-(off+k)-1,by omega⟩
    rw[H,show j-(off+(k+1))=m by omega];simp
   .rw[if_neg<|by omega,if_neg<|by simpa using D];simp only[bU];rw[Array.getElem?_setIfInBounds_ne<|by omega]
def Du(cx:Cx)(D:List<|Nat×TypeId):List AV->List (Nat×AV)->Option (List AV)
 |cells,[]=>some cells
 |cells,(i,v)::j =>
  match D[i]?, cellsOf v with
  |some (off,H),some cs=>(match cx.ty H with
   |some G=>(match Nat.beq G.size cs.length,Nat.ble (off+cs.length) cells.length with
    |true,true=>Du cx D (over cells off cs) j
    |_,_=>none)
   |none=>none)
  |_,_=>none
def Tz{cx:Cx}(hT:bC cx)(hσ:∀s,L s->(σ s).oneCell' =true){g:Array Field}{places:Array<|Nat×Nat}(hp:∀(i:Nat) D N,g[i]? =some D->cx.ty D.type=some N->places[i]? =some (D.offset,N.size)) :
 ∀(G:List<|Nat×AV) (us:List<|Nat×Value) (cells r:List AV) (vs:Array Value),Du cx (g.toList.map λf=>(f.offset,f.type)) cells G=some r ->
 us.length=G.length->(∀(j:Nat) p,G[j]? =some p-> ∃u,us[j]? =some (p.1,u)/\aC w O L σ p.2 u)->vs.size=cells.length->(∀j c,cells[j]? =some c->aC w O L σ c (vs.getD j Go.undef)) ->
 ∃I,Instr.fill (places[·]?) vs us=some I /\I.size=r.length/\ ∀j c,r[j]? =some c->aC w O L σ c (I.getD j Go.undef):=by
 intro G;induction G with
 |nil =>
  intro us cells r vs h W _ hs X;obtain rfl:us=[]:=List.eq_nil_of_length_eq_zero W;simp only[Du]at h;cases h;exact⟨vs,rfl,hs,X⟩
 |cons p rest ih =>
  obtain⟨i,v⟩:=p;intro us cells r vs h W hu hs X;cases us with
  |nil=>simp at W
  |cons q us =>
   obtain⟨u,hq,hr⟩:=hu 0 (i,v) rfl;obtain rfl:q=(i,u):=by simpa using hq
   simp only[Du]at h;split at h
   .rename_i off ft cs T Y;split at h
    .rename_i N Z;split at h
     .rename_i e1 V;have e1:N.size=cs.length:=bg e1;have V:off+cs.length<=cells.length:=bA V;rw[bc]at T;cases hg:g.toList[i]? with
      |none=>rw[hg]at T;cases T
      |some D =>
       rw[hg]at T;cases T;have kq :g[i]? =some D:=by rw[<- bE];exact hg
       have kH:=hp i D N kq Z;obtain⟨k1,k2⟩:=kZ Y hσ hr;have H:=λj=>GL u.cells.toList vs D.offset 0 j (by simp;omega)
       have:=ih us _ r (u.cells.zipIdx.foldl (λcs (c,j)=>cs.setIfInBounds (D.offset+j) c) vs) h (by simpa using W) (λj p K=>hu (j+1) p K) ?_ ?_
       .obtain⟨I,f1,f2⟩:=this;refine⟨I,?_,f2⟩;simp only[Instr.fill,kH];rw[if_neg<|by simp;omega];exact f1
       .rw[BF V, <- hs, <- (H 0).1, <- Array.foldl_toList,Array.toList_zipIdx]
       .intro j c K;rw[KU V]at K;have e:(u.cells.zipIdx.foldl (λcs (c,j)=>cs.setIfInBounds (D.offset+j) c) vs).getD j Go.undef=if D.offset+0<=j/\j<D.offset+0+u.cells.toList.length then u.cells.toList.getD (j-(D.offset+0)) Go.undef else vs.getD j Go.undef:=by
         rw[<- (H j).2, <- Array.foldl_toList,Array.toList_zipIdx]
        rw[e];have U:u.cells.toList.length=cs.length:=by simpa using k1
        rw[U];simp only[Nat.add_zero];split at K
        .rename_i J;rw[if_pos J];have:=k2 _ c K;simpa using this
        .rename_i J;rw[if_neg J];exact X j c K
     .cases h
    .cases h
   .cases h
end
def DW:AV->Option AV
 | .undef=>none
 | .d x=>some<|.d x
 | .nil sz=>some<|.nil sz
 | .ptr s o=>some<|.ptr s o
 | .own s=>some<|.own s
 | .dy a b c d=>some<|.dy a b c d
 | .tl a b c=>some<|.tl a b c
 | .omap s=>some<|.omap s
 | .maybe p=>some<|.maybe p
 | .agg cs=>some<|.agg cs
 | .tuple vs=>some<|.tuple vs
 | .fn f a b=>some<|.fn f a b
def xQ:List AV->Option (List AV)
 |[]=>some []
 |c::t=>match DW c,xQ t with|some j,some t' =>some<|j ::t'|_,_=>none
variable {v:AV}
def xP{r:AV}(h:DW v=some r):r=v:=by cases v<;>first|(cases h;rfl)|cases h
def uj:∀{l r:List AV},xQ l=some r->r=l
 |[],r,h=>by cases h;rfl
 |c::t,r,h=>by
  simp only[xQ]at h;split at h
  .rename_i D t' h1 j;cases h;rw[xP h1,uj j]
  .cases h
def AP:List AV->Option (List AV)
 |[]=>some []
 |c::t=>match c with
  | .undef=>(match AP t with|some t' =>some<|.undef::t'|none=>none)
  |c=>(match DW c,AP t with|some j,some t' =>some<|j ::t'|_,_=>none)
def xR:∀{l r:List AV},AP l=some r->r=l
 |[],r,h=>by cases h;rfl
 |c::t,r,h=>by
  unfold AP at h;split at h
  .split at h
   .rename_i t' h1;cases h;rw[xR h1]
   .cases h
  .split at h
   .rename_i D t' h1 j;cases h;rw[xP h1,xR j]
   .cases h
def qt:AV->Option AV
 | .agg cs=>(match AP cs with|some cs=>some<|.agg cs|none=>none)
 |v=>DW v
def pq{r:AV}(h:qt v=some r):r=v:=by
 cases v<;>first|exact xP h|skip
 simp only[qt]at h;split at h
 .rename_i h1;cases h;rw[xR h1]
 .cases h
def kO(cx:Cx)(t:TypeId):AV->AV
 | .nil 0=>(match cx.ty t with|some ⟨_,_,.slice e,_⟩=>(match cx.ty e with|some j=> .nil j.size|none=> .nil 0)|_=> .nil 0)
 |v=>v
variable {w:World}{σ:Nat->Value}{cx:Cx}
def kP{O L:Nat->Prop}{t:TypeId}{u:Value}(h:aC w O L σ v u):aC w O L σ (kO cx t v) u:=by
 unfold kO;split
 .cases h;split
  .split<;>exact .nil _
  .exact .nil _
 .exact h
def nD:Op->Bool
 | .move _=>true
 | .assign _=>true
 | .pick .. =>true
 | .load .. =>true
 | .nilCheck _=>true
 | .binOp .. =>true
 | .unOp .. =>true
 | .convert .. =>true
 | .build .. =>true
 | .makeFunc .. =>true
 | .slice .. =>true
 | .fieldAddr .. =>true
 | .field .. =>true
 | .indexAddr .. =>true
 | .index .. =>true
 | .extract .. =>true
 | .lookup .. =>true
 | .call c=>(match c.callee with| .builtin .len=>true|_=>false)
 |_=>false
def abY(cx:Cx)(o:Oper)(st:St)(v:AV):Prop :=
 ∀(E:Env) st' σ a w,st.le st' ->bS cx E st' σ a w-> ∃z,(execOp a.eval o).run cx.P w= .ok (.value z) w/\aC w E.O (live st'.heap) σ v z
def de(cx:Cx)(o:Oper)(st:St)(v:AV)(bs:List<|Nat×Blk):Prop :=
 (∀(E:Env) st' a w (Q:Exit->Act->World->Prop),st.le st' ->(∀e,o.dst=some e->e<E.nt)->(∀s,live bs s-> ¬live st'.heap s)->Sim cx E st' a w ->
  o.wp cx.P a w (λj w' =>Sim cx E (st'.put o.dst v bs) j w') Q)/\(nD o.op=true->bs=[]/\abY cx o st v)
variable {o:Oper}{st:St}
def de.Ja{bs:List<|Nat×Blk}(hp:nD o.op=false)(h:∀(E:Env) st' a w (Q:Exit->Act->World->Prop),st.le st' ->(∀e,o.dst=some e->e<E.nt)->(∀s,live bs s-> ¬live st'.heap s)->Sim cx E st' a w ->
 o.wp cx.P a w (λj w' =>Sim cx E (st'.put o.dst v bs) j w') Q):de cx o st v bs:=⟨h,λe=>by rw[hp]at e;cases e⟩
def bS.one{E:Env}{a:Act}(h:bS cx E st σ a w):∀s,live st.heap s->(σ s).oneCell' =true:=λs D=>by
 obtain⟨b,j⟩:=aH.1 D;exact(h.holds.blk s b j).home.2
def de.value
 (h:∀(E:Env) st' σ a w,st.le st' ->bS cx E st' σ a w-> ∃z,(execOp a.eval o).run cx.P w= .ok (.value z) w/\aC w E.O (live st'.heap) σ v z):de cx o st v []:=by
 refine⟨?_,λ_=>⟨rfl,h⟩⟩;intro E st' a w Q j D _ ⟨σ,hs⟩;obtain⟨z,H,G⟩:=h E st' σ a w j hs;simp only[Oper.wp,H,Oper.upon];exact⟨σ,hs.put D G⟩
def cN{d:Nat}{b:Blk}{s:Nat}:live [(d,b)] s ↔ s=d:=by
 unfold live find find;by_cases h:d=s
 .subst h;simp
 .have:Nat.beq d s=false:=by rw[<- Bool.not_eq_true];exact λe=>h<|bg e
  simp[this];exact λe=>h e.symm
def de.new{d:Nat}{b:Blk}(hp:nD o.op=false)(K:o.dst=some d)
 (h:∀(E:Env) st' σ a w,st.le st' ->bS cx E st' σ a w-> ∃w' u τ,(execOp a.eval o).run cx.P w= .ok (.value u) w' /\Below w.heap.size w w' /\(∀g,home τ=some g->w.heap.size<=g) /\
  ∀σ' :Nat->Value,σ' d=τ->(∀g,w.heap.size<=g->E.F g)->bx w w' (Own E.O (live st'.heap) σ) (Own E.O (live<|[(d,b)]++st'.heap) σ')->(∀s,live st'.heap s->live ([(d,b)]++st'.heap) s/\σ' s=σ s)->live ([(d,b)]++st'.heap) d ->
   du w' E.F E.O (live<|[(d,b)]++st'.heap) σ' d b/\aC w' E.O (live<|[(d,b)]++st'.heap) σ' v u):de cx o st v [(d,b)]:=by
 refine de.Ja hp ?_;intro E st' a w Q Y hd H ⟨σ,hs⟩;obtain⟨w',u,τ,hz,D,G,hh⟩:=h E st' σ a w Y hs;simp only[Oper.wp,hz,Oper.upon];have hn:¬live st'.heap d:=H d<|cN.2 rfl
 let σ' :Nat->Value:=λs=>if s=d then τ else σ s
 have U:σ' d=τ:=if_pos rfl;have V:∀s,live st'.heap s->σ' s=σ s:=λs j=>if_neg λ(e:s=d)=>hn<|e ▸ j
 have I:bx w w' (Own E.O (live st'.heap) σ)<|Own E.O (live<|[(d,b)]++st'.heap) σ':=by
  refine⟨D.size,λx _ J=>D.block x J,λx N J Z=>?_⟩;rcases Z with Z|⟨s,j,e⟩
  .exact N<|.inl Z
  .rcases cP.1 j with j|j
   .rw[cN.1 j,U]at e;have:=G x e;omega
   .rw[V s j]at e;exact N<|.inr ⟨s,j,e⟩
 obtain⟨hb,hr⟩:=hh σ' U (λg hg=>hs.new g<|Nat.le_trans hs.frame.size hg) I (λs j=>⟨cP.2<|.inr j,V s j⟩)<|cP.2<|.inl<|cN.2 rfl;have W:∀T B,E.fix T=some B-> ¬live [(d,b)] T:=λT B hB j=>by
  have h1:=(hs.fix T B hB).1;have h2:d<E.nt:=hd d K;have h3:T=d:=cN.1 j;omega
 refine⟨σ',hs.grow hd V D W (λs x j e=>?_) (λs s' x j X _ _=>(cN.1 j).trans (cN.1 X).symm) (λs x J=>?_) hr⟩
 .rw[cN.1 j,U]at e;exact G x e
 .have j:=cN.1<|aH.2 ⟨x,J⟩;subst j;rw[bo]at J;cases J;exact hb
def lR(w:World)(o:Obj):Below w.heap.size w<|w.alloc o:=(Below.refl _ _).alloc (Nat.le_refl _) o
def sJ{w':World}(h:w.grownBy w' none):Below w.heap.size w w' :=(Below.refl _ w).grown h (Nat.le_refl _) λk e=>by cases e
def im(P:Program)(f:FuncId):Prop:= ∃fn,P.funcs[f]? =some fn/\(fn.name== "runtime.NumGoroutine")=false/\fn.body.isNone=false
def Fn(cx:Cx)(f:FuncId)(args:List D)(v:AV)(bs:List<|Nat×Blk):Prop :=
 im cx.P f/\ ∀(O:Nat->Prop) (w:World) (vs:Array Value),(∀b,O b->b<w.heap.size)->jO cx w->(∀g cells,cx.gl g=some cells-> ¬O g)->vs.size=args.length ->
  (∀(j:Nat) d,args[j]? =some d->Rep w O d (vs.getD j Go.undef)) ->
  Calls cx.P f vs w λe w' => ∃u τ,e= .returned u/\Below w.heap.size w w' /\Holds w' (w.heap.size<= ·) O bs τ/\aC w' O (live bs) τ v u
def FnB(cx:Cx)(f:FuncId)(cells args:List D)(v:AV)(G :List D):Prop :=
 im cx.P f/\ ∀(O:Nat->Prop) (w:World) (B:Nat) (cur:Array Value) (t:TypeId) (vs:Array Value),(∀b,O b->b<w.heap.size)->jO cx w->(∀g cells,cx.gl g=some cells-> ¬O g)->O B ->
  w.heap[B]? =some (.cells cur t (0,0))->cur.size=cells.length->(∀(j:Nat) d,cells[j]? =some d->d.one=true/\Rep w O d (cur.getD j Go.undef))->vs.size=args.length->(∀(j:Nat) d,args[j]? =some d->Rep w O d (vs.getD j Go.undef)) ->
  Calls cx.P f (#[.pointer<|some ⟨B,0,none⟩]++vs) w λI w' => ∃u H t',I= .returned u/\w'.os=w.os/\w'.tape=w.tape/\w'.output=w.output/\w.heap.size<=w'.heap.size /\
   (∀k,k<w.heap.size->k≠B->w'.heap[k]? =w.heap[k]?)/\w'.heap[B]? =some (.cells H t' (0,0))/\H.size=G.length/\(∀(j:Nat) d,G[j]? =some d->d.one=true/\Rep w' O d (H.getD j Go.undef)) /\
   aC w' O (λ_=>False) (λ_=> .nilFunc) v u
def cB(f:AV->Option D):List AV->Option (List D)
 |[]=>some []
 |c::t=>match f c,cB f t with|some x,some xs=>some<|x::xs|_,_=>none
def cF{f:AV->Option D}:∀{l:List AV} {r:List D},cB f l=some r->r.length=l.length/\ ∀(j:Nat) d,r[j]? =some d-> ∃c,l[j]? =some c/\f c=some d
 |[],r,h=>by cases h;exact⟨rfl,λj d G=>by simp at G⟩
 |c::t,r,h=>by
  simp only[cB]at h;split at h
  .rename_i x xs h1 J;cases h;obtain⟨H,I⟩:=cF J;refine⟨by simp[H],λj d G=>?_⟩;cases j with
   |zero=>simp at G;subst G;exact⟨c,rfl,h1⟩
   |succ j=>simp at G;simpa using I j d G
  .cases h
def fw:AV->Option D
 | .d x=>some x
 | .nil sz=>some<|.slice sz []
 |_=>none
def Dg:AV->Bool
 | .ptr _ off=>Nat.beq off 0
 | .d (.ptr [.cS _])=>false
 |_=>true
def Ga(p:List UInt8×D):List D×D:=([.tuple [.str p.1]],p.2)
def nZ:AV->Option D
 | .fn f first j=>(match cB fw first,cB fw j with|some a,some b=>(match j.all Dg with|true=>some<|.fn f a b|false=>none)|_,_=>none)
 |v=>fw v
def FR(x:D):Bool:=x.one
def ju:AV->Option D
 | .agg cs=>(match cB nZ cs with|some xs=>(match xs.all FR with|true=>some<|.agg xs|false=>none)|none=>none)
 |v=>nZ v
def mo(st:St):AV->Option D
 | .omap s=>(match find st.heap s with|some (.smap m)=>some<|.cS<|m.map Ga|some (.cS m)=>some<|.cS m|_=>none)
 | .own s=>(match find st.heap s with|some (.row _ sz rows _)=>some<|.slice sz rows|_=>none)
 |v=>fw v
def ic(st:St):AV->Option D
 | .ptr s off=>(match find st.heap s with|some (.box cells)=>(match cB (mo st) (cells.drop off)with|some xs=>(match xs.all FR with|true=>some<|.ptr xs|false=>none)|none=>none)|_=>none)
 |v=>mo st v
def qF(st:St):AV->Option D
 | .fn f first j=>(match cB (ic st) first,cB (ic st) j with|some a,some b=>(match j.all Dg with|true=>some<|.fn f a b|false=>none)|_,_=>none)
 |v=>ic st v
def oN(st:St)(s off:Nat):Option AV :=
 match off,find st.heap s with
 |0,some (.box [c])=>some c
 |_,_=>none
def na(st:St):AV->Option D
 | .ptr s off=>(match oN st s off with
  |some (.fn f a b)=>(match qF st (.fn f a b)with|some x=>some<|.ptr [x]|none=>none)
  |_=>ic st<|.ptr s off)
 |v=>ic st v
def lz(st:St):AV->Option D
 | .fn f first j=>(match cB (ic st) first,cB (na st) j with|some a,some b=>(match j.all Dg with|true=>some<|.fn f a b|false=>none)|_,_=>none)
 |v=>ic st v
def iU(st:St):AV->Option D
 | .agg cs=>(match cB (lz st) cs with|some xs=>(match xs.all FR with|true=>some<|.agg xs|false=>none)|none=>none)
 |v=>lz st v
section
variable {w:World} {O L:Nat->Prop} {σ:Nat->Value}
def jE{v:AV}{x:D}(h:fw v=some x){u:Value}(j:aC w O L σ v u):Rep w (Own O L σ) x u:=by
 cases v<;>simp only[fw]at h<;>try (cases h;done)
 .cases h;cases j;assumption
 .cases h;cases j;exact .empty _ _ _
def rS{v:AV}{x:D}(h:nZ v=some x){u:Value}(N:aC w O L σ v u):Rep w (Own O L σ) x u:=by
 cases v<;>try (refine jE ?_ N;exact h)
 simp only[nZ]at h;split at h
 .rename_i a b h1 W;split at h
  case h_2=>cases h
  rename_i I;cases h;cases N with|fn f first K xs vs Z Y U V =>
   obtain⟨l1,k1⟩:=cF h1;obtain⟨l2,T⟩:=cF W;refine .fn _ _ _ _ _ (Z.trans l1.symm) (Y.trans l2.symm) (λj d J=>?_) (λj d J=>?_) (λj m J=>?_)
   rotate_left 2
   .obtain⟨c,H,G⟩:=T j _ J;have X:=aG.1 I c<|aw H;cases c<;>simp only[fw]at G<;>cases G;cases X
   .obtain⟨c,H,G⟩:=k1 j d J;exact jE G<|U j c H
   .obtain⟨c,H,G⟩:=T j d J;exact jE G<|V j c H
 .cases h
def kG{v:AV}{x:D}(h:ju v=some x){u:Value}(H:aC w O L σ v u):Rep w (Own O L σ) x u:=by
 cases v<;>try (refine rS ?_ H;exact h)
 simp only[ju]at h;split at h
 .rename_i xs h1;split at h
  .rename_i I;cases h;cases H with|agg cs vs N g =>
    obtain⟨l1,T⟩:=cF h1;refine .agg _ _ (N.trans l1.symm) (λd G=>aG.1 I d G) λj d K=>?_;obtain⟨c,J,G⟩:=T j d K;exact rS G<|g j c J
  .cases h
 .cases h
def Hz{st:St}{F:Nat->Prop}(hh:Holds w F O st.heap σ)(N:∀b,O b-> ¬F b){v:AV}{x:D}(h:mo st v=some x){u:Value}(Y:aC w O (live st.heap) σ v u):Rep w O x u:=by
 have Z:bx w w (Own O (live st.heap) σ) O:=bx.less λb h=> .inl h
 cases v<;>try (refine Rep.mono Z<|jE ?_ Y;exact h)
 case omap s =>
  simp only[mo]at h;split at h
  .rename_i m V;cases h;cases Y with|omap _ hL =>
    obtain⟨b,es,K,H,U,I,T,e5⟩:=hh.blk s _ V;rw[H];refine .ofMap (λho=>N b ho U) (bP.1 I).1 I ⟨⟨by simpa using T.1,T.2⟩,λj k v G=>?_⟩;rw[bc]at G;cases hp:m[j]? with
    |none=>rw[hp]at G;cases G
    |some p =>
     obtain⟨k0,v0⟩:=p;rw[hp]at G;cases G;obtain⟨e,h1,h2,h3⟩:=e5 j k0 v0 hp;refine⟨e,h1,.inl ⟨_,rfl,?_⟩,h3.mono Z⟩;generalize e.key=ek at h2;cases h2 with|str _ b hb=>exact⟨b,rfl,hb⟩
  .rename_i m V;cases h;cases Y with|omap _ hL =>
    obtain⟨b,es,K,H,U,I,T⟩:=hh.blk s _ V;rw[H];exact .ofMap (λho=>N b ho U) (bP.1 I).1 I (T.mono λ_ _ h=>h.mono Z)
  .cases h
 rename_i s;simp only[mo]at h;split at h
 .rename_i e sz rows fl V;cases h;cases Y with|own _ hL =>
   obtain⟨xs,o1,o2,o3,o4,o5⟩:=hh.blk s _ V;rcases o1.2 with ⟨H,U⟩|⟨g,cap,cur,H,_,I,T,_,e6,e7⟩
   .obtain rfl:rows=[]:=List.eq_nil_of_length_eq_zero U;rw[H];exact .empty _ _ _
   .rw[H];have J:∀(i:Nat) r (j:Nat) d,rows[i]? =some r->r[j]? =some d->w.cell? ⟨g,0+i*sz+j,none⟩=some (xs.getD (i*sz+j) Go.undef)/\Rep w O d (xs.getD (i*sz+j) Go.undef):=by
     intro i r j d W G;obtain⟨u,X,hd⟩:=o5 i r j d W G;have hx:xs.getD (i*sz+j) Go.undef=u:=by simp[List.getD,X]
     rw[hx];refine⟨?_,hd.mono Z⟩;rw[<- e7,List.getElem?_take]at X;split at X
     .simp only[World.cell?,I,Nat.zero_add];simpa using X
     .cases X
    exact .slice sz rows g 0 _ cap (λi j=>xs.getD (i*sz+j) Go.undef) rfl (λh=>N g h<|o2 g<|by rw[H];rfl) (bP.1 I).1 T o4 (λi r j d W G=>(J i r j d W G).1) λi r j d W G=>(J i r j d W G).2
 .cases h
def nS{st:St}{F:Nat->Prop}(N:Holds w F O st.heap σ)(H:∀b,O b-> ¬F b){v:AV}{x:D}(h:ic st v=some x){u:Value}(W:aC w O (live st.heap) σ v u):Rep w O x u:=by
 cases v<;>try (refine Hz N H ?_ W;exact h)
 rename_i s off;simp only[ic]at h;split at h
 .rename_i cells hf;split at h
  .rename_i xs h1;split at h
   .rename_i Z;cases h;cases W with|ptr _ _ b hL hs =>
     obtain⟨b',cur,t,U,X,V,e4,Y⟩:=N.blk s _ hf;rw[hs]at U;cases U;obtain⟨l1,k1⟩:=cF h1;have G:∀(j:Nat) d,xs[j]? =some d->w.cell? ⟨b,off+j,none⟩=some (cur.getD (off+j) Go.undef)/\Rep w O d (cur.getD (off+j) Go.undef):=by
      intro j d I;obtain⟨c,J,K⟩:=k1 j d I;rw[List.getElem?_drop]at J;have T:off+j<cur.size:=by have:=(aA.1 J).1;omega
      refine⟨by simp[World.cell?,V,T],Hz N H K (Y _ c J).2⟩
     exact .ptr xs b off (λj=>cur.getD (off+j) Go.undef) (λh=>H b h X) (bP.1 V).1 (λd K=>aG.1 Z d K) (λj d I=>(G j d I).1) λj d I=>(G j d I).2
   .cases h
  .cases h
 .cases h
def HO{st:St}{c:AV}{m:List<|List D×D}(j:ic st c=some (.ptr [.cS m]))(G:Dg c=true){w:World}{O L:Nat->Prop}{σ:Nat->Value}{u:Value}(H:aC w O L σ c u):∃B,u= .pointer (some ⟨B,0,none⟩):=by
 cases c with
 |ptr s off =>
  obtain rfl:off=0:=bg G;cases H with|ptr _ _ b I J=>exact⟨b,rfl⟩
 |own s =>
  simp only[ic,mo]at j;split at j<;>cases j
 |omap s =>
  simp only[ic,mo]at j;split at j<;>cases j
 |d x=>cases j;cases G
 |nil sz=>cases j
 |_=>cases j
def Vr{st:St}{F:Nat->Prop}(N:Holds w F O st.heap σ)(G:∀b,O b-> ¬F b){v:AV}{x:D}(h:qF st v=some x){u:Value}(V:aC w O (live st.heap) σ v u):Rep w O x u:=by
 cases v<;>try (refine nS N G ?_ V;exact h)
 simp only[qF]at h;split at h
 .rename_i a b h1 Y;split at h
  case h_2=>cases h
  rename_i I;cases h;cases V with|fn f first T xs vs hx Z X U =>
   obtain⟨l1,k1⟩:=cF h1;obtain⟨l2,W⟩:=cF Y;refine .fn _ _ _ _ _ (hx.trans l1.symm) (Z.trans l2.symm) (λj d K=>?_) (λj d K=>?_) (λj m K=>?_)
   rotate_left 2
   .obtain⟨c,H,J⟩:=W j _ K;exact HO J (aG.1 I c<|aw H)<|U j c H
   .obtain⟨c,H,J⟩:=k1 j d K;exact nS N G J<|X j c H
   .obtain⟨c,H,J⟩:=W j d K;exact nS N G J<|U j c H
 .cases h
def Ti{st:St}{s off:Nat}{c:AV}(h:oN st s off=some c):off=0/\find st.heap s=some (.box [c]):=by
 unfold oN at h;split at h
 .rename_i j;cases h;exact⟨rfl,j⟩
 .cases h
def Yx{st:St}{f:FuncId}{a b:List AV}{x:D}(h:qF st (.fn f a b)=some x):∃j G,x= .fn f j G :=by
 simp only[qF]at h;split at h
 .split at h
  .cases h;exact⟨_,_,rfl⟩
  .cases h
 .cases h
def Vq{st:St}{F:Nat->Prop}(H:Holds w F O st.heap σ)(G:∀b,O b-> ¬F b){v:AV}{x:D}(h:na st v=some x){u:Value}(K:aC w O (live st.heap) σ v u):Rep w O x u:=by
 cases v<;>try (refine nS H G ?_ K;exact h)
 rename_i s off;simp only[na]at h;split at h
 .rename_i f a b Z;split at h
  .rename_i y V;cases h;obtain⟨rfl,hf⟩:=Ti Z;obtain⟨a',b',rfl⟩:=Yx V;cases K with|ptr _ _ g hL hs =>
    obtain⟨g',cur,t,T,W,U,X,Y⟩:=H.blk s _ hf;rw[hs]at T;cases T;have N:=Vr H G V (Y 0 _ rfl).2;refine .ptr _ g 0 (λj=>cur.getD j Go.undef) (λh=>G g h W) (bP.1 U).1 (λd hd=>by rw[List.mem_singleton.1 hd];rfl) (λj d I=>?_) λj d I=>?_
    .rcases j with _|j
     .have J:0<cur.size:=by rw[X];exact Nat.one_pos
      simp[World.cell?,U,J]
     .simp at I
    .rcases j with _|j
     .cases I;exact N
     .simp at I
  .cases h
 .exact nS H G h K
def Vp{st:St}{c:AV}{m:List<|List D×D}(H:na st c=some (.ptr [.cS m]))(j:Dg c=true){w:World}{O L:Nat->Prop}{σ:Nat->Value}{u:Value}(G:aC w O L σ c u):∃B,u= .pointer (some ⟨B,0,none⟩):=by
 cases c with
 |ptr s off =>
  obtain rfl:off=0:=bg j;cases G with|ptr _ _ b I J=>exact⟨b,rfl⟩
 |_=>exact HO (st:=st) (m:=m) (by simpa only[na] using H) j G
def HA{st:St}{F:Nat->Prop}(N:Holds w F O st.heap σ)(G:∀b,O b-> ¬F b){v:AV}{x:D}(h:lz st v=some x){u:Value}(V:aC w O (live st.heap) σ v u):Rep w O x u:=by
 cases v<;>try (refine nS N G ?_ V;exact h)
 simp only[lz]at h;split at h
 .rename_i a b h1 Y;split at h
  case h_2=>cases h
  rename_i I;cases h;cases V with|fn f first T xs vs hx Z X U =>
   obtain⟨l1,k1⟩:=cF h1;obtain⟨l2,W⟩:=cF Y;refine .fn _ _ _ _ _ (hx.trans l1.symm) (Z.trans l2.symm) (λj d K=>?_) (λj d K=>?_) (λj m K=>?_)
   rotate_left 2
   .obtain⟨c,H,J⟩:=W j _ K;exact Vp J (aG.1 I c<|aw H)<|U j c H
   .obtain⟨c,H,J⟩:=k1 j d K;exact nS N G J<|X j c H
   .obtain⟨c,H,J⟩:=W j d K;exact Vq N G J<|U j c H
 .cases h
def Ag{st:St}{F:Nat->Prop}(I:Holds w F O st.heap σ)(G:∀b,O b-> ¬F b){v:AV}{x:D}(h:iU st v=some x){u:Value}(J:aC w O (live st.heap) σ v u):Rep w O x u:=by
 cases v<;>try (refine HA I G ?_ J;exact h)
 simp only[iU]at h;split at h
 .rename_i xs h1;split at h
  .rename_i K;cases h;cases J with|agg cs vs U g =>
    obtain⟨l1,V⟩:=cF h1;refine .agg _ _ (U.trans l1.symm) (λd H=>aG.1 K d H) λj d T=>?_;obtain⟨c,N,H⟩:=V j d T;exact HA I G H<|g j c N
  .cases h
 .cases h
end
def Qo(sz:Nat)(rows:List<|List D)(p:Nat):Option D:=match rows[p / sz]? with
 |some r=>r[p % sz]?
 |none=>none
def Fu:D->D->Bool
 | .int k n,.int j G => !(decide (k=j)&&(n==G))
 | .bool a,.bool b=> !(a==b)
 | .str a,.str b=> !(a==b)
 | .int _ _,_=>true
 | .bool _,_=>true
 | .str _,_=>true
 |_,_=>false
def Ru(p:Nat×List (List D))(r:List D):Bool:= !r.isEmpty&&(List.range<|p.2.length*p.1).all λoff=>(List.range r.length).any λj =>
 match Qo p.1 p.2 (off+j),r[j]? with
 |some c,some d=>Fu c d
 |none,some _=>true
 |_,none=>false
def apD(L:List<|Nat×List (List D)):Nat->D->Bool
 |0,_=>false
 |n+1,.slice _ rows=>(match rows with|[]=>true|r::_=>L.all λp=>Ru p r)&&rows.all λr=>r.all<|apD L n
 |n+1,.agg cs=>cs.all<|apD L n
 |n+1,.tuple cs=>cs.all<|apD L n
 |_+1,.int _ _=>true
 |_+1,.bool _=>true
 |_+1,.str _=>true
 |_,_=>false
def IV(w:World)(b:Nat)(p:Nat×List (List D)):Prop:=0<p.1/\(∀r∈p.2,r.length=p.1)/\ ∃cur t G,w.heap[b]? =some (.cells cur t G)/\cur.size=p.2.length*p.1 /\
 ∀i r j d,p.2[i]? =some r->r[j]? =some d-> ∃O,Rep w O d<|cur.getD (i*p.1+j) Go.undef
variable {w:World}{v:Value}
def QB{O O' :Nat->Prop}{c d:D}(h:Fu c d=true)(j:Rep w O c v)(G:Rep w O' d v):False:=by
 unfold Fu at h;split at h
 .cases j;cases G;simp at h
 .cases j;cases G;simp at h
 .cases j with|str _ b I=>cases G with|str _ _ H =>subst I H;simp at h
 .rename_i h1;cases j;cases G;exact h1 _ _ rfl
 .rename_i h1;cases j;cases G;exact h1 _ rfl
 .rename_i h1;cases j;cases G;exact h1 _ rfl
 .cases h
def NS{O:Nat->Prop}{b off:Nat}{p:Nat×List (List D)}{r:List D}{us:Nat->Value}(h:Ru p r=true)(hL:IV w b p)(h1:∀j d,r[j]? =some d->w.cell? ⟨b,off+j,none⟩=some (us j))
 (h2:∀j d,r[j]? =some d->Rep w O d (us j)):False:=by
 obtain⟨hz,K,cur,t,fr,hb,hs,I⟩:=hL;have G:∀j d,r[j]? =some d->cur[off+j]? =some (us j):=λj d U=>by
  have:=h1 j d U;simp only[World.cell?,hb]at this;simpa using this
 unfold Ru at h;simp only[aK,Bool.not_eq_true',List.isEmpty_eq_false_iff,aG,List.mem_range,List.any_eq_true]at h;obtain⟨W,h⟩:=h;obtain⟨Z,r',rfl⟩:=List.exists_cons_of_ne_nil W;have V:off<p.2.length*p.1:=by
  have:=(bP.1<|G 0 Z rfl).1;omega
 obtain⟨j,U,h⟩:=h off V;generalize Z::r' =r at *
 obtain⟨d,T⟩:∃d,r[j]? =some d:=⟨_,ao U⟩
 rw[T]at h;have hc:=G j d T;have kC:=(bP.1 hc).1;have hq:(off+j) / p.1<p.2.length:=Nat.div_lt_of_lt_mul (by rw[Nat.mul_comm];omega);have hm:(off+j) % p.1<p.1:=Nat.mod_lt _ hz;have he:(off+j) / p.1*p.1+(off+j) % p.1=off+j:=by rw[Nat.mul_comm];exact Nat.div_add_mod ..
 obtain⟨row,H⟩:∃row,p.2[(off+j) / p.1]? =some row:=⟨_,ao hq⟩
 have Y:=K row<|aw H;obtain⟨c,J⟩:∃c,row[(off+j) % p.1]? =some c:=⟨_,ao<|by rw[Y];exact hm⟩
 obtain⟨O',X⟩:=I _ _ _ _ H J;rw[he]at X;have N:Qo p.1 p.2 (off+j)=some c:=by unfold Qo;rw[H];exact J
 rw[N]at h;have hu:cur.getD (off+j) Go.undef=us j:=by rw[bU,hc];rfl
 rw[hu]at X;exact QB h X<|h2 j d T
variable {O1 O2:Nat->Prop}{L:List (Nat×List (List D))}
def SO(Y:∀b,O2 b-> ¬O1 b->b<w.heap.size-> ∃p∈L,IV w b p){d:D}{u:Value}(h:Rep w O1 d u):∀n,apD L n d=true->Rep w O2 d u:=by
 induction h with
 |int=>intro n _;exact .int _ _
 |bool=>intro n _;exact .bool _
 |str s b h=>intro n _;exact .str s b h
 |empty=>intro n _;exact .empty _ _ _
 |slice sz rows B off n cap us U K N hc I h1 W J =>
  intro m G;cases m with
  |zero=>cases G
  |succ m =>
   simp only[apD,aK,aG]at G;cases rows with
   |nil=>obtain rfl:n=0:=U.symm;exact .empty _ _ _
   |cons r t =>
    refine .slice sz _ B off n cap us U (λZ=>?_) N hc I h1 λi V j d T H=>J i V j d T H m<|G.2 V (aw T) d<|aw H
    obtain⟨p,hp,X⟩:=Y B Z K N;have:=G.1;simp only[aG]at this;refine NS (off:=off+0*sz) (this p hp) X (λj d H=>h1 0 r j d rfl H) λj d H=>W 0 r j d rfl H
 |agg cells vs I h1 h J =>
  intro m G;cases m with
  |zero=>cases G
  |succ m =>
   simp only[apD,aG]at G;exact .agg cells vs I h1 λj d H=>J j d H m<|G d<|aw H
 |tuple cells vs I h J =>
  intro m G;cases m with
  |zero=>cases G
  |succ m =>
   simp only[apD,aG]at G;exact .tuple cells vs I λj d H=>J j d H m<|G d<|aw H
 |ptr=>intro m G;cases m<;>cases G
 |fn=>intro m G;cases m<;>cases G
 |cS=>intro m G;cases m<;>cases G
 |jg=>intro _ _;exact .jg
def tV(rows:List<|List D):Bool:=rows.all λr=>r.all D.gP
def qE(st:St):AV->Option D
 | .own s=>(match find st.heap s with|some (.row _ sz rows true)=>(match tV rows with|true=>some<|.slice sz rows|false=>none)|_=>none)
 |v=>nZ v
def qD(st:St):AV->Option D
 | .agg cs=>(match cB (qE st) cs with|some xs=>(match xs.all FR with|true=>some<|.agg xs|false=>none)|none=>none)
 |v=>qE st v
variable {st:St}
def Ny{v:AV}{x:D}(h:nZ v=some x):lz st v=some x:=by
 have I:∀c y,fw c=some y->ic st c=some y:=λc y j=>by
  cases c<;>simp only[fw]at j<;>first|(cases j;rfl)|cases j
 cases v<;>try (simp only[nZ]at h;exact I _ _ h)
 simp only[nZ]at h;split at h
 .rename_i a b G H;simp only[lz];have J:∀c y,fw c=some y->na st c=some y:=λc y j=>by
   cases c<;>simp only[fw]at j<;>first|(cases j;rfl)|cases j
  have key:∀(g:AV->Option D),(∀c y,fw c=some y->g c=some y)-> ∀(l:List AV) a,cB fw l=some a->cB g l=some a:=λg K l=>by
   induction l with
   |nil=>intro a h;exact h
   |cons c t N =>
    intro a h;simp only[cB]at h ⊢;split at h
    .rename_i x xs G H;cases h;rw[K _ _ G,N _ H]
    .cases h
  rw[key _ I _ _ G,key _ J _ _ H];exact h
 .cases h
def BT{v:AV}{x:D}(h:qE st v=some x):lz st v=some x:=by
 cases v<;>try (exact Ny (show nZ _=some x from h))
 rename_i s;simp only[qE]at h;split at h
 .rename_i j;split at h
  .cases h;simp only[lz,ic,mo,j]
  .cases h
 .cases h
def Ah{f g:AV->Option D}(h:∀c y,f c=some y->g c=some y):∀(l:List AV) a,cB f l=some a->cB g l=some a
 |[],a,e=>e
 |c::t,a,e=>by
  simp only[cB]at e ⊢;split at e
  .rename_i x xs j G;cases e;rw[h _ _ j,Ah h t _ G]
  .cases e
def Oy{v:AV}{x:D}(h:qD st v=some x):iU st v=some x:=by
 cases v
 case agg cs =>
  simp only[qD]at h;split at h
  .rename_i xs j;simp only[iU];rw[Ah (λc y=>BT) _ _ j];exact h
  .cases h
 all_goals (simp only[iU];simp only[qD]at h;exact BT h)
def DK(st:St):List<|Nat×List (List D):=st.heap.filterMap λp=>match p.2 with
 | .row _ sz rows true=>(match tV rows with|true=>some (sz,rows)|false=>none)
 |_=>none
def GU{e:TypeId}{sz:Nat}{rows:List<|List D}(G:tV rows=true){s:Nat}:∀{h:List<|Nat×Blk},find h s=some (.row e sz rows true)-> ∃p∈h,p.2= .row e sz rows true
 |[],j=>by cases j
 |(k,x)::t,j=>by
  unfold find at j;split at j
  .cases j;exact⟨_,List.mem_cons_self .., rfl⟩
  .obtain⟨p,hp,e⟩:=GU G j;exact⟨p,aZ _ hp,e⟩
def Uo{e:TypeId}{sz:Nat}{rows:List<|List D}(j:tV rows=true){s:Nat}(H:find st.heap s=some (.row e sz rows true)):(sz,rows)∈DK st:=by
 obtain⟨p,hp,G⟩:=GU j H;unfold DK;rw[List.mem_filterMap];refine⟨p,hp,?_⟩;rw[G];dsimp only;rw[j]
def ap2(L:List<|Nat×List (List D)):AV->Bool
 | .d x=>apD L 30 x
 | .agg cs=>cs.all fun| .d x=>apD L 30 x|_=>false
 |_=>false
def apV(L:List<|Nat×List (List D)):AV->Bool
 | .tuple vs=>vs.all<|ap2 L
 |v=>ap2 L v
def DJ(st:St)(args:List AV)(v:AV):Bool:=match cB (qD st) args with
 |some _=>apV (DK st) v
 |none=>false
variable {L1 L2:Nat->Prop}{σ1 σ2:Nat->Value}
def OG(H:∀b,Own O2 L2 σ2 b-> ¬Own O1 L1 σ1 b->b<w.heap.size-> ∃p∈L,IV w b p){c:AV}(h:aC w O1 L1 σ1 c v)(D:ap2 L c=true):aC w O2 L2 σ2 c v:=by
 cases h with
 |d x v h=>exact .d _ _<|SO H h 30 D
 |agg cs vs J h =>
  refine .agg _ _ J λj c I=>?_
  simp only[ap2,aG]at D;have:=D c<|aw I;have G:=h j c I;cases c<;>first|cases this|skip
  cases G with|d _ _ G=>exact .d _ _<|SO H G 30 this
 |_=>cases D
def Zo(G:∀b,Own O2 L2 σ2 b-> ¬Own O1 L1 σ1 b->b<w.heap.size-> ∃p∈L,IV w b p){c:AV}(h:aC w O1 L1 σ1 c v)(D:apV L c=true):aC w O2 L2 σ2 c v:=by
 cases c<;>try exact OG G h D
 cases h with|tuple cs vs I h =>
  simp only[apV,aG]at D;exact .tuple _ _ I λj c H=>OG G (h j c H)<|D c<|aw H
def ud(st:St)(σ:Nat->Value)(b:Nat):Prop:= ∃s e sz rows,find st.heap s=some (.row e sz rows true)/\tV rows=true/\home (σ s)=some b
section
variable {w:World} {F O:Nat->Prop} {σ:Nat->Value} {st st' :St}
def EV(T :∀s b,find st.heap s=some b->find st'.heap s=some b)(hh:Holds w F O st'.heap σ){v:AV}{x:D}(h:qE st v=some x){u:Value}(W:aC w O (live st'.heap) σ v u):Rep w (λb=>Own O (live st'.heap) σ b/\ ¬ud st σ b) x u:=by
 have X:bx w w (Own O (live st'.heap) σ) (λb=>Own O (live st'.heap) σ b/\ ¬ud st σ b):=bx.less λb h=>h.1
 cases v<;>try (refine Rep.mono X<|rS ?_ W;exact h)
 rename_i s;simp only[qE]at h;split at h
 .rename_i e sz rows V;split at h
  .rename_i H;cases h;cases W with|own _ hL =>
    obtain⟨xs,o1,o2,o3,o4,o5⟩:=hh.blk s _<|T _ _ V;rcases o1.2 with ⟨N,Y⟩|⟨g,cap,cur,N,_,U,Z,_,e6,e7⟩
    .obtain rfl:rows=[]:=List.eq_nil_of_length_eq_zero Y;rw[N];exact .empty _ _ _
    .rw[N];have G:∀(i:Nat) r (j:Nat) d,rows[i]? =some r->r[j]? =some d->w.cell? ⟨g,0+i*sz+j,none⟩=some (xs.getD (i*sz+j) Go.undef)/\Rep w (λb=>Own O (live st'.heap) σ b/\ ¬ud st σ b) d (xs.getD (i*sz+j) Go.undef):=by
      intro i r j d I J;obtain⟨u,K,hd⟩:=o5 i r j d I J;have hx:xs.getD (i*sz+j) Go.undef=u:=by simp[List.getD,K]
      rw[hx];refine⟨?_,hd.mono X⟩;rw[<- e7,List.getElem?_take]at K;split at K
      .simp only[World.cell?,U,Nat.zero_add];simpa using K
      .cases K
     exact .slice sz rows g 0 _ cap (λi j=>xs.getD (i*sz+j) Go.undef) rfl (λh=>h.2 ⟨s,e,sz,rows,V,H,by rw[N];rfl⟩) (bP.1 U).1 Z o4 (λi r j d I J=>(G i r j d I J).1) λi r j d I J=>(G i r j d I J).2
  .cases h
 .cases h
def Sv(G :∀s b,find st.heap s=some b->find st'.heap s=some b)(I:Holds w F O st'.heap σ){v:AV}{x:D}(h:qD st v=some x){u:Value}(J:aC w O (live st'.heap) σ v u):Rep w (λb=>Own O (live st'.heap) σ b/\ ¬ud st σ b) x u:=by
 cases v<;>try (refine EV G I ?_ J;exact h)
 simp only[qD]at h;split at h
 .rename_i xs h1;split at h
  .rename_i K;cases h;cases J with|agg cs vs U g =>
    obtain⟨l1,V⟩:=cF h1;refine .agg _ _ (U.trans l1.symm) (λd H=>aG.1 K d H) λj d T=>?_;obtain⟨c,N,H⟩:=V j d T;exact EV G I H<|g j c N
  .cases h
 .cases h
def Rh(N :∀s b,find st.heap s=some b->find st'.heap s=some b)(hh:Holds w F O st'.heap σ){w' :World}(hb:∀b,b<w.heap.size->w'.heap[b]? =w.heap[b]?){b:Nat}(hl:ud st σ b):∃p∈DK st,IV w' b p:=by
 obtain⟨s,e,sz,rows,W,D,G⟩:=hl;refine⟨(sz,rows),Uo D W,?_⟩;obtain⟨xs,o1,o2,Z,o4,o5⟩:=hh.blk s _<|N _ _ W;rcases o1.2 with ⟨I,e2⟩|⟨g,cap,cur,I,_,U,e4,_,e6,e7⟩
 .rw[I]at G;cases G
 .rw[I]at G;cases G;obtain⟨a,V⟩:=Z.2 rfl;rw[I]at V;have H:cap=rows.length:=by cases V;rfl
  have T:=(bP.1 U).1;refine⟨Z.1,λr hr=>(o4 r hr).1,cur,e,(0,0),(hb g T).trans U,by rw[e6,H],λi r j d X Y=>?_⟩;obtain⟨u,J,hd⟩:=o5 i r j d X Y;have K:d.gP=true:=by
   have:=aG.1 D r<|aw X;exact aG.1 this d<|aw Y
  have:cur.getD (i*sz+j) Go.undef=u:=by
   rw[<- e7,List.getElem?_take]at J;split at J
   .rw[bU, <- bE,J];rfl
   .cases J
  exact⟨λ_=>False,by rw[this];exact hd.gP K⟩
end
def sI(b:Bool)(p q:Prop):Prop:=match b with|true=>p|false=>q
def eR{b:Bool}{p q:Prop}(h1:b=true->p)(j:b=false->q):sI b p q:=by
 cases b
 .exact j rfl
 .exact h1 rfl
def aD{b:Bool}{p q P Q:Prop}(h:b=true->P)(h1:b=false->Q)(j:b=true->p=P:=by intro h;rewrite [h];conv=>lhs;whnf)(D:b=false->q=Q:=by intro h;rewrite [h];conv=>lhs;whnf):sI b p q:=eR (λe=>j e ▸ h e) λe=>D e ▸ h1 e
abbrev KK:=AV->List (Nat×Blk)->Prop
def kr(o:Option AV)(k:KK):Prop:=match o with|some v=>k v []|none=>False
def takeN(cx:Cx)(t:TypeId)(cs:List AV):Option AV:=match ym cx t cs with|some v=>qt v|none=>none
def qp(cx:Cx)(st:St)(t:TypeId)(x:AV)(k:KK):Prop :=
 match x with
 | .ptr s off=>(match find st.heap s with|some (.box cells)=>kr (takeN cx t<|cells.drop off) k|_=>False)
 | .dy s sz i off=>(match find st.heap s with
  |some (.row _ sz' rows _)=>(match Nat.beq sz' sz with|true=> ∃row,rows[i]? =some row/\kr (takeN cx t<|(row.drop off).map .d) k|false=>False)
  |some (.fb _ sz' rows)=>(match Nat.beq sz' sz with|true=> ∃row,rows[i]? =some row/\kr (takeN cx t<|row.drop off) k|false=>False)
  |some (.tail _ sz' rows)=>(match Nat.beq sz' sz with|true=> ∃row,rows[i]? =some row/\kr (takeN cx t<|(row.drop off).map .d) k|false=>False)
  |_=>False)
 | .d (.ptr cells)=>kr (takeN cx t<|cells.map .d) k
 |_=>False
def cD(cx:Cx)(t:TypeId):Option (TypeId×TI) :=
 match cx.ty t with
 |some ⟨_,_,.slice e,_⟩=>(match cx.ty e with|some j=>some (e,j)|none=>none)
 |_=>none
def arrayElem(cx:Cx)(t:TypeId):Option (Nat×TI) :=
 match cx.ty t with
 |some ⟨_,_,.array n e,_⟩=>(match cx.ty e with|some j=>some (n,j)|none=>none)
 |_=>none
def isStr(cx:Cx)(t:TypeId):Bool:=match cx.ty t with|some ⟨_,_,.str,_⟩=>true|_=>false
def eX(cx:Cx)(st:St)(t:TypeId)(x i:AV)(k:KK):Prop :=
 match i with
 | .d (.int _ n)=>(match cD cx t with
  |some (_,j)=>(match x with
   | .d (.slice sz rows)=>(match Nat.beq sz j.size with|true=>0<=n/\ ∃row,rows[n.toNat]? =some row/\k (.d<|.ptr row) []|false=>False)
   | .own s=>(match find st.heap s with
    |some (.row _ sz rows _)=>(match Nat.beq sz j.size with|true=>0<=n/\n.toNat<rows.length/\k (.dy s sz n.toNat 0) []|false=>False)
    |some (.fb _ sz rows)=>(match Nat.beq sz j.size with|true=>0<=n/\n.toNat<rows.length/\k (.dy s sz n.toNat 0) []|false=>False)
    |some (.tail _ sz rows)=>(match Nat.beq sz j.size with|true=>0<=n/\n.toNat<rows.length/\k (.dy s sz n.toNat 0) []|false=>False)
    |_=>False)
   | .tl s D G=>(match find st.heap s with
    |some (.row _ sz rows _)=>(match Nat.beq sz j.size,Nat.beq D sz with|true,true=>0<=n/\G+n.toNat<rows.length/\k (.dy s sz (G+n.toNat) 0) []|_,_=>False)
    |_=>False)
   |_=>False)
  |none=>(match arrayElem cx t with
   |some (m,j)=>0<=n/\n<m/\kr (Jb x<|n.toNat*j.size) k
   |none=>False))
 |_=>False
def tZ(cx:Cx)(t:TypeId)(x i:AV)(k:KK):Prop :=
 match x,i,isStr cx t with
 | .d (.str s),.d (.int _ n),true=>0<=n/\ ∃c,s[n.toNat]? =some c/\k (.d<|.int .u8 c.toNat) []
 |_,_,_=>False
def yU(cx:Cx)(t:TypeId)(x:AV)(D j:Option AV)(k:KK):Prop :=
 match x with
 | .d (.str s)=>(match isStr cx t,bnd 0 D,bnd s.length j with
  |true,some l,some h=>0<=l/\l<=h/\h<=s.length/\k (.d<|.str<|(s.drop l.toNat).take<|h.toNat-l.toNat) []
  |_,_,_=>False)
 | .d (.slice sz rows)=>(match cD cx t,bnd 0 D,bnd rows.length j with
  |some (_,G),some l,some h=>(match Nat.beq sz G.size with
   |true=>0<=l/\l<=h/\h<=rows.length/\k (.d<|.slice sz<|(rows.drop l.toNat).take<|h.toNat-l.toNat) []
   |false=>False)
  |_,_,_=>False)
 |_=>False
def cA(cx:Cx)(st:St):List Operand->List TypeId->List AV
 |[],_=>[]
 |x::xs,t::j=>kO cx t (st.ev cx x)::cA cx st xs j
 |x::xs,[]=>st.ev cx x::cA cx st xs []
def callee:AV->Option (FuncId×List AV×List AV)
 | .d (.fn g a b)=>some (g,a.map .d,b.map .d)
 | .fn g a b=>some (g,a,b)
 |_=>none
def TD:AV->Bool
 | .d x=>x.gP
 |_=>false
def Kf:AV->Bool
 | .d x=>x.flat
 | .agg cs=>cs.all TD
 |_=>false
def QN:AV->Bool
 | .tuple vs=>vs.all Kf
 |v=>Kf v
def xH:List (Nat×Blk)->Bool
 |[]=>true
 |(s,_)::t=>(match Nat.blt s 100000 with|true=>xH t|false=>false)
def FI:∀{bs:List<|Nat×Blk},xH bs=true-> ∀s,live bs s->s<100000
 |[],_,s,h=>by simp[live,find]at h
 |(k,b)::t,j,s,h=>by
  simp only[xH]at j;split at j
  .rename_i D;by_cases e:k=s
   .subst e;exact Nat.lt_of_succ_le<|bA D
   .refine FI j s ?_;unfold live at h ⊢
    rwa [bp _ _ e]at h
  .cases j
def Rx:AV->Option D
 | .d x=>some x
 |_=>none
def jf(cx:Cx)(st:St)(g:FuncId)(args:List AV)(k:KK):Prop :=
 match args with
 | .ptr s 0::j=>(match find st.heap s,cB ju j with
  |some (.box cs),some ds=>(match cB Rx cs with
   |some cells=> ∃v,FnB cx g cells ds v cells/\k v []
   |none=>False)
  |_,_=>False)
 |_=>False
def fnK(cx:Cx)(st:St)(f:AV)(args:List AV)(k:KK):Prop :=
 match callee f with
 |some (g,a,b)=>(match Nat.beq (cx.chg g) 4 with
  |true=>jf cx st g (a++args++b) k
  |false=>match cB ju (a++args++b)with
  |some ds=> ∃v bs,Fn cx g ds v bs/\(match xH bs with|true=>k v bs|false=>False)
  |none=>(match cB (iU st) (a++args++b)with
   |some ds=> ∃v,Fn cx g ds v []/\(QN v||DJ st (a++args++b) v)=true/\k v []
   |none=>False))
 |none=>False
def isMap(cx:Cx)(t:TypeId):Bool:=match cx.ty t with|some ⟨_,_,.map _ _,_⟩=>true|_=>false
def mS(cx:Cx)(st:St)(t:TypeId)(x:AV)(k:KK):Prop :=
 match x with
 | .d (.str s)=>(match isStr cx t with|true=>k (.d<|.int .i64 s.length) []|false=>False)
 | .d (.slice _ rows)=>(match cD cx t with|some _=>k (.d<|.int .i64 rows.length) []|none=>False)
 | .nil _=>(match cD cx t with|some _=>k (.d<|.int .i64 0) []|none=>False)
 | .own s=>(match cD cx t,find st.heap s with|some _,some (.row _ _ rows _)=>k (.d<|.int .i64 rows.length) []|some _,some (.fb _ _ rows)=>k (.d<|.int .i64 rows.length) []|some _,some (.tail _ _ rows)=>k (.d<|.int .i64 rows.length) []|_,_=>False)
 | .tl s _ i=>(match cD cx t,find st.heap s with|some _,some (.row _ _ rows _)=>k (.d<|.int .i64 ((rows.length-i:Nat):Int)) []|_,_=>False)
 | .omap s=>(match isMap cx t,find st.heap s with|true,some (.cS m)=>k (.d<|.int .i64 m.length) []|true,some (.smap m)=>k (.d<|.int .i64 m.length) []|_,_=>False)
 | .d (.cS m)=>(match isMap cx t with|true=>k (.d<|.int .i64 m.length) []|false=>False)
 |_=>False
def xg(cx:Cx)(st:St)(c:Call)(k:KK):Prop :=
 match c.callee with
 | .builtin .len=>(match c.args.toList,c.argTypes.toList with|[x],[t]=>mS cx st t (st.ev cx x) k|_,_=>False)
 | .value f=>fnK cx st (st.ev cx f) (cA cx st c.args.toList c.argTypes.toList) k
 |_=>False
def Ed(cx:Cx)(st:St)(j:List<|Nat×TypeId)(p:Nat×Operand):Nat×AV:=(p.1,match j[p.1]? with|some (_,D)=>kO cx D<|st.ev cx p.2|none=>st.ev cx p.2)
def rO(cx:Cx)(st:St)(t:TypeId)(j:List<|Nat×Operand)(k:KK):Prop :=
 match cx.ty t with
 |some ⟨_,_,.struct D,zero⟩=>(match Du cx D zero (j.map<|Ed cx st D)with
  |some cs=>(match xQ cs,D.all (λp=>(cx.ty p.2).isSome)with|some cs,true=>k (.agg cs) []|_,_=>False)
  |none=>False)
 |_=>False
def sZ(st:St)(cx:Cx)(size:Nat):Nat->List (Nat×Operand)->Option (List<|List D)
 |_,[]=>some []
 |i,(j,x)::G=>(match Nat.beq i j with
  |true=>(match cellsOf (st.ev cx x)with
   |some cs=>(match cB nZ cs with
    |some ds=>(match Nat.beq ds.length size,ds.all FR,sZ st cx size (i+1) G with|true,true,some H=>some<|ds::H|_,_,_=>none)
    |none=>none)
   |none=>none)
  |false=>none)
def tc(st:St)(cx:Cx)(size:Nat):Nat->List (Nat×Operand)->Option (List<|List AV)
 |_,[]=>some []
 |i,(j,x)::D=>(match Nat.beq i j with
  |true=>(match cellsOf (st.ev cx x)with
   |some G=>(match xQ G with
    |some cs=>(match Nat.beq cs.length size,cs.all AV.one,tc st cx size (i+1) D with|true,true,some H=>some<|cs::H|_,_,_=>none)
    |none=>none)
   |none=>none)
  |false=>none)
def bH{α:Type}(k:List UInt8):List (List UInt8×α)->Option α
 |[]=>none
 |(j,v)::t=>if k=j then some v else bH k t
def cy{α:Type}(k:List UInt8)(v:α):List (List UInt8×α)->List (List UInt8×α)
 |[]=>[(k,v)]
 |(j,D)::t=>if k=j then(j,v)::t else(j,D)::cy k v t
def D.gT:D->AV
 | .agg cs=> .agg<|cs.map .d
 |x=> .d x
def yu(i:TI):Option AV:=match i.kind.isAgg with|true=>some<|.agg i.zero|false=>(match i.zero with|[c]=>some c|_=>none)
def mapOf(st:St):AV->Option (List<|List D×D)
 | .omap s=>(match find st.heap s with|some (.cS m)=>some m|_=>none)
 | .d (.cS m)=>some m
 |_=>none
def IF(cx:Cx)(j:TypeId):D->Bool
 | .int k _=>(match cx.ty j with|some ⟨_,_,.int G,_⟩=>decide<|G =k|_=>false)
 | .str _=>isStr cx j
 |_=>false
def ue(cx:Cx)(t:TypeId)(m:List<|List D×D)(key:AV)(ok:Bool)(k:KK):Prop :=
 match key,cx.ty t with
 | .agg cs,some ⟨_,_,.map H G,_⟩=>(match cB fw cs,cx.eqT H,cx.ty G with
  |some kc,some I,some j=>(match yu j,jc I kc with
   |some z,true=> ∃r,qm I kc m=some r/\(match r with
    |some v=>(match ok with|true=>k (.tuple [v.gT,.d<|.bool true]) []|false=>k v.gT [])
    |none=>(match ok with|true=>k (.tuple [z,.d<|.bool false]) []|false=>k z []))
   |_,_=>False)
  |_,_,_=>False)
 | .d x,some ⟨_,_,.map H G,_⟩=>(match IF cx H x,cx.ty G with
  |true,some j=>(match yu j with
   |some z=> ∃r,qx x m=some r/\(match r with
    |some v=>(match ok with|true=>k (.tuple [v.gT,.d<|.bool true]) []|false=>k v.gT [])
    |none=>(match ok with|true=>k (.tuple [z,.d<|.bool false]) []|false=>k z []))
   |none=>False)
  |_,_=>False)
 |_,_=>False
def jK(cx:Cx)(st:St)(t:TypeId)(x key:AV)(ok:Bool)(k:KK):Prop :=
 match mapOf st x with
 |some m=>ue cx t m key ok k
 |none =>
 match x,key,cx.ty t with
 | .omap s,.d (.str b),some ⟨_,_,.map G D,_⟩=>(match find st.heap s,isStr cx G,cx.ty D with
  |some (.smap m),true,some j=>(match yu j with
   |some z=>(match bH b m with
    |some v=>(match ok with|true=>k (.tuple [v.gT,.d<|.bool true]) []|false=>k v.gT [])
    |none=>(match ok with|true=>k (.tuple [z,.d<|.bool false]) []|false=>k z []))
   |none=>False)
  |some (.dR m),true,some j=>(match yu j,ok with
   |some z,false=> ∃r,bH b m=r/\k (r.getD z) []
   |_,_=>False)
  |_,_,_=>False)
 |_,_,_=>False
def Ep:Operand->Operand->Bool
 | .tmp a,.tmp b=>Nat.beq a b
 |_,_=>false
def UG{a b:Operand}(h:Ep a b=true):a=b:=by
 cases a<;>cases b<;>first|(cases h;done)|(exact congrArg Operand.tmp<|bg h)
def mf(cx:Cx)(d:Option Nat)(t:TypeId)(l c:AV)(fl:Bool)(k:KK):Prop :=
 match d,cD cx t,l,c with
 |some d,some (e,j),.d (.int _ n),.d (.int _ m)=>(match cB fw j.zero with
  |some z=>0<=n/\(n=m\/n=0)/\0<=m/\m.toNat*j.bytes<=140737488355328/\m<=9223372036854775807/\(match Nat.ble 1 j.size with|true=>k (.own d) [(d,.row e j.size (List.replicate n.toNat z) fl)]|false=>False)
  |none=>False)
 |_,_,_,_=>False
def inL(x:Nat):List Nat->Bool
 |[]=>false
 |y::t=>(match Nat.beq x y with|true=>true|false=>inL x t)
def Kt:Option AV->Bool
 |none=>true
 |some (.d<|.int _ _)=>true
 |_=>false
def FK(cx:Cx)(t:TypeId):Option Bool :=
 match cx.ty t with
 |some ⟨_,_,.map j _,_⟩=>(match cx.eqT j with|some _=>some true|none=>(match isStr cx j with|true=>some false|false=>some true))
 |_=>none
def TY:Operand->Bool
 | .const (.pointer none)=>true
 | .const .nilFunc=>true
 | .const (.map none)=>true
 |_=>false
def Ve(op:BinOp)(x y:AV):Option (List UInt8×List UInt8) :=
 match op with
 | .add=>(match x,y with| .d (.str a),.d (.str b)=>some (a,b)|_,_=>none)
 |_=>none
def opK(cx:Cx)(d:Option Nat)(ty:TypeId)(st:St)(op:Op)(k:KK):Prop :=
 match op with
 | .move x=>kr (qt<|kO cx ty<|st.ev cx x) k
 | .assign x=>(match TY x with|true=>k .undef []|false=>kr (qt<|kO cx ty<|st.ev cx x) k)
 | .pick c a b=>(match st.ev cx c with
  | .d (.bool t)=>sI t (kr (qt<|st.ev cx a) k)<|kr (qt<|st.ev cx b) k
  |_=>False)
 | .alloc e=>(match d,cx.ty e with|some d,some i=>k (.ptr d 0) [(d,.box i.zero)]|_,_=>False)
 | .box _ x=>(match d,cellsOf (st.ev cx x)with|some d,some cs=>(match xQ cs with|some cs=>(match cs.all AV.one with|true=>k (.ptr d 0) [(d,.box cs)]|false=>False)|none=>False)|_,_=>False)
 | .build t j=>rO cx st t j.toList k
 | .buildSlice t len j=>(match d,cD cx t with
  |some d,some (e,D)=>(match sZ st cx D.size 0 j.toList with
   |some rows=>(match Nat.beq rows.length len,Nat.ble (len*D.size) 16777216,Nat.ble 1 D.size,inL d cx.bld with|true,true,true,false=>k (.own d) [(d,.row e D.size rows<|inL (d+100000) cx.bld)]|true,true,true,true=>k (.d<|.slice D.size rows) []|_,_,_,_=>False)
   |none=>(match tc st cx D.size 0 j.toList with
    |some rows=>(match Nat.beq rows.length len,Nat.ble (len*D.size) 16777216,Nat.ble 1 D.size with|true,true,true=>k (.own d) [(d,.fb e D.size rows)]|_,_,_=>False)
    |none=>False))
  |_,_=>False)
 | .load t x=>qp cx st t (st.ev cx x) k
 | .nilCheck x=>(match st.ev cx x with| .ptr s o=>k (.ptr s o) []| .dy s z i o=>k (.dy s z i o) []| .d (.ptr cs)=>k (.d<|.ptr cs) []| .fn f a b=>k (.fn f a b) []| .d (.fn f a b)=>k (.d<|.fn f a b) []|_=>False)
 | .binOp op t x y _=>(match Ve op (st.ev cx x) (st.ev cx y)with
  |some (a,b)=>a.length+b.length<=9223372036854775807/\k (.d<|.str<|a++b) []
  |none=>kr (Qj cx op t (st.ev cx x)<|st.ev cx y) k)
 | .unOp op _ x=>kr (unA op<|st.ev cx x) k
 | .convert H dst x=>kr (Qv cx H dst<|st.ev cx x) k
 | .makeFunc fn first G=>(match fn with| .func f=>k (.fn f (first.toList.map (st.ev cx))<|G.toList.map<|st.ev cx) []|_=>False)
 | .slice t x J I K=>(match K with|none=>yU cx t (st.ev cx x) (J.map<|st.ev cx) (I.map<|st.ev cx) k|some _=>False)
 | .fieldAddr s x f=>kr (xy cx s (st.ev cx x) f) k
 | .field t x f=>kr (match Ka cx t (st.ev cx x) f with|some v=>qt v|none=>none) k
 | .indexAddr t x i=>eX cx st t (st.ev cx x) (st.ev cx i) k
 | .index t x i=>tZ cx t (st.ev cx x) (st.ev cx i) k
 | .extract x i=>kr (match Co (st.ev cx x) i with|some v=>qt v|none=>none) k
 | .call c=>xg cx st c k
 | .makeMap t r=>(match d,Kt<|r.map<|st.ev cx,FK cx t with|some d,true,some true=>k (.omap d) [(d,.cS [])]|some d,true,some false=>k (.omap d) [(d,.smap [])]|_,_,_=>False)
 | .makeSlice t l c=>mf cx d t (st.ev cx l) (st.ev cx c) (Ep l c) k
 | .lookup t x i ok=>jK cx st t (st.ev cx x) (st.ev cx i) ok k
 |_=>False
section
variable {cx:Cx} {st:St} {k:KK}
def vd{o:Option AV}(h:kr o k):∃v,o=some v/\k v []:=by
 cases o with
 |none=>exact h.elim
 |some v=>exact⟨v,rfl,h⟩
def dg{o:Oper}{v:AV}(s:(Operand->Value)->Sem Value)(D:∀ρ,execOp ρ o=(do pure (.value<|<- s ρ):Sem Next))
 (h:∀(E:Env) st' σ a w,st.le st' ->bS cx E st' σ a w-> ∃z,(s a.eval).run cx.P w= .ok z w/\aC w E.O (live st'.heap) σ v z):de cx o st v [] :=
 de.value λE st' σ a w j H=>by
  obtain⟨z,I,G⟩:=h E st' σ a w j H;exact⟨z,by rw[D];simp[I],G⟩
def rb{t:TypeId}{cs:List AV}{v:AV}(h:takeN cx t cs=some v):ym cx t cs=some v:=by
 unfold takeN at h;split at h
 .rename_i r j;rw[pq h];exact j
 .cases h
def PA{o:Oper}{x:Operand}(j:o.op= .move x\/o.op= .assign x)(h:kr (qt<|kO cx o.type<|st.ev cx x) k):∃v bs,de cx o st v bs/\k v bs:=by
 obtain⟨v,I,G⟩:=vd h;obtain rfl:=pq I;refine⟨_,[],de.value λE st' σ a w D H=>?_,G⟩;refine⟨a.eval x,?_,kP<|H.ev D x⟩;rcases j with j|j<;>simp[execOp,j]
def Ux{o:Oper}{x:Operand}(j:o.op= .assign x)(h:opK cx o.dst o.type st (.assign x) k):∃v bs,de cx o st v bs/\k v bs:=by
 simp only[opK]at h;split at h
 .exact⟨_,[],de.value λE st' σ a w D G=>⟨a.eval x,by simp[execOp,j],.undef _⟩,h⟩
 .exact PA (.inr j) h
def aau{o:Oper}{c x y:Operand}(J:o.op= .pick c x y)(h:opK cx o.dst o.type st (.pick c x y) k):∃v bs,de cx o st v bs/\k v bs:=by
 simp only[opK]at h;split at h
 .rename_i t K;cases t with
  |true =>
   obtain⟨v,I,H⟩:=vd h;obtain rfl:=pq I;refine⟨_,[],de.value λE st' σ a w j G=>?_,H⟩;have D:=G.ev j c;rw[K]at D;exact⟨a.eval x,by simp[execOp,J,D.bool,asBool],G.ev j x⟩
  |false =>
   obtain⟨v,I,H⟩:=vd h;obtain rfl:=pq I;refine⟨_,[],de.value λE st' σ a w j G=>?_,H⟩;have D:=G.ev j c;rw[K]at D;exact⟨a.eval y,by simp[execOp,J,D.bool,asBool],G.ev j y⟩
 .exact h.elim
def mB{o:Oper}{r:Option AV}(s:(Operand->Value)->Sem Value)(j:∀ρ,execOp ρ o=(do pure (.value<|<- s ρ):Sem Next))
 (D:∀v,r=some v-> ∀(E:Env) st' σ a w,st.le st' ->bS cx E st' σ a w-> ∃z,(s a.eval).run cx.P w= .ok z w/\aC w E.O (live st'.heap) σ v z) (h:kr r k):∃v bs,de cx o st v bs/\k v bs:=by
 obtain⟨v,H,G⟩:=vd h;exact⟨v,[],dg s j<|D v H,G⟩
def aat(hT:bC cx){o:Oper}{t:TypeId}{x:Operand}(ho:o.op= .load t x)(h:qp cx st t (st.ev cx x) k):∃v bs,de cx o st v bs/\k v bs:=by
 have he:∀ρ,execOp ρ o=(do pure (.value<|<- Instr.loadAt t<|ρ x):Sem Next):=λρ=>by simp only[execOp,ho]
 unfold qp at h;split at h
 .rename_i s off hx;split at h
  .rename_i cells hf;refine mB _ he (λv Y E st' σ a w G U=>?_) h;have I:=U.ev G x;rw[hx]at I;obtain⟨b',cur,tt,T,e2,e3,e4,e5⟩:=U.holds.blk s _<|G.heap s _ hf;generalize a.eval x=u at I;cases I with|ptr _ _ b hL Z =>
    rw[Z]at T;cases T;refine oA hT (rb Y) (λj=>cur.getD (off+j) Go.undef) (λj c D=>?_) λj c D=>?_
    .rw[List.getElem?_drop]at D;have V:off+j<cur.size:=by have:=(aA.1 D).1;omega
     simp[World.cell?,e3,V]
    .rw[List.getElem?_drop]at D;exact(e5 _ c D).2
  .exact h.elim
 .rename_i s sz i off hx;split at h
  .rename_i te J rows fl hf;split at h
   .rename_i W;obtain rfl:J =sz:=bg W;obtain⟨row,H,h⟩:=h;refine mB _ he (λv Y E st' σ a w G U=>?_) h;have I:=U.ev G x;rw[hx]at I;obtain⟨xs,o1,o2,o3,o4,o5⟩:=U.holds.blk s _<|G.heap s _ hf;generalize a.eval x=u at I;cases I with|dy _ _ _ _ b n cap o0 hL Z =>
     rcases o1.2 with ⟨T,_⟩|⟨g,hA,cur,T,_,e3,e4,_,e6,e7⟩
     .rw[Z]at T;cases T
     .rw[Z]at T;cases T;have N:∀(j:Nat) c,((row.drop off).map AV.d)[j]? =some c-> ∃d,c= .d d/\row[off+j]? =some d:=by
       intro j c D;rw[bc,List.getElem?_drop]at D;cases K:row[off+j]? with
       |none=>rw[K]at D;cases D
       |some d=>rw[K]at D;cases D;exact⟨d,rfl,rfl⟩
      refine oA hT (rb Y) (λj=>xs.getD (i*J +(off+j)) Go.undef) (λj c D=>?_) λj c D=>?_
      .obtain⟨d,rfl,K⟩:=N j c D;obtain⟨u,X,_⟩:=o5 i row _ d H K;rw[show xs.getD (i*J +(off+j)) Go.undef=u by simp[List.getD,X]];rw[<- e7,List.getElem?_take]at X;split at X
       .simp only[World.cell?,e3,Nat.add_assoc];simpa using X
       .cases X
      .obtain⟨d,rfl,K⟩:=N j c D;obtain⟨u,X,I⟩:=o5 i row _ d H K;rw[show xs.getD (i*J +(off+j)) Go.undef=u by simp[List.getD,X]];exact .d _ _ I
   .exact h.elim
  .rename_i te J rows hf;split at h
   .rename_i W;obtain rfl:J =sz:=bg W;obtain⟨row,H,h⟩:=h;refine mB _ he (λv Y E st' σ a w G U=>?_) h;have I:=U.ev G x;rw[hx]at I;obtain⟨g,cur,tt,T,e2,e3,e4,e5⟩:=U.holds.blk s _<|G.heap s _ hf;generalize a.eval x=u at I;cases I with|dy _ _ _ _ b n cap o0 hL Z =>
     rw[Z]at T;cases T;refine oA hT (rb Y) (λj=>cur.getD (i*J +(off+j)) Go.undef) (λj c D=>?_) λj c D=>?_
     .rw[List.getElem?_drop]at D;have V:=(e5 i row _ c H D).1.2;simp[World.cell?,e3,Nat.add_assoc,V]
     .rw[List.getElem?_drop]at D;exact(e5 i row _ c H D).2
   .exact h.elim
  .rename_i te J rows hf;split at h
   .rename_i W;obtain rfl:J =sz:=bg W;obtain⟨row,H,h⟩:=h;refine mB _ he (λv Y E st' σ a w G U=>?_) h;have I:=U.ev G x;rw[hx]at I;obtain⟨⟨aa,hA,T,⟨_,hc,_⟩,_,h4⟩,_⟩:=U.holds.blk s _<|G.heap s _ hf;generalize a.eval x=u at I;cases I with|dy _ _ _ _ b n cap o0 hL Z =>
     rw[Z]at T;cases T;rcases h4 with ⟨h4,_⟩|⟨g,o1,cur,h4,e3,_,e5⟩
     .cases h4
     cases h4;have N:∀(j:Nat) c,((row.drop off).map AV.d)[j]? =some c-> ∃d,c= .d d/\row[off+j]? =some d:=by
      intro j c D;rw[bc,List.getElem?_drop]at D;cases K:row[off+j]? with
      |none=>rw[K]at D;cases D
      |some d=>rw[K]at D;cases D;exact⟨d,rfl,rfl⟩
     refine oA hT (rb Y) (λj=>cur.getD (o0+(i*J +(off+j))) Go.undef) (λj c D=>?_) λj c D=>?_
     .obtain⟨d,rfl,K⟩:=N j c D;obtain⟨u,X,_⟩:=e5 i row _ d H K;have V:=(bP.1 X).1;simp[World.cell?,e3,Nat.add_assoc,V]
     .obtain⟨d,rfl,K⟩:=N j c D;obtain⟨u,X,I⟩:=e5 i row _ d H K;rw[show cur.getD (o0+(i*J +(off+j))) Go.undef=u by rw[bU,X];rfl];exact .d _ _ I
   .exact h.elim
  .exact h.elim
 .rename_i cells hx;refine mB _ he (λv Y E st' σ a w G U=>?_) h;have I:=U.ev G x;rw[hx]at I;generalize a.eval x=u at I;cases I with|d _ _ I=>cases I with|ptr _ B off us hO hB kF h1 h2 =>
   refine oA hT (rb Y) us (λj c D=>?_) λj c D=>?_
   .rw[bc]at D;cases K:cells[j]? with
    |none=>rw[K]at D;cases D
    |some d=>exact h1 j d K
   .rw[bc]at D;cases K:cells[j]? with
    |none=>rw[K]at D;cases D
    |some d=>rw[K]at D;cases D;exact .d _ _<|h2 j d K
 .exact h.elim
def cE{t e:TypeId}{j:TI}(h:cD cx t=some (e,j)):∃D,cx.ty t=some D/\D.kind= .slice e/\cx.ty e=some j:=by
 unfold cD at h;split at h
 .rename_i H;split at h
  .rename_i G;cases h;exact⟨_,H,rfl,G⟩
  .cases h
 .cases h
def yH{t:TypeId}{n:Nat}{j:TI}(h:arrayElem cx t=some (n,j)):∃D e,cx.ty t=some D/\D.kind= .array n e/\cx.ty e=some j:=by
 unfold arrayElem at h;split at h
 .rename_i H;split at h
  .rename_i G;cases h;exact⟨_,_,H,rfl,G⟩
  .cases h
 .cases h
def ln{t:TypeId}(h:isStr cx t=true):∃j,cx.ty t=some j/\j.kind= .str:=by
 unfold isStr at h;split at h
 .rename_i D;exact⟨_,D,rfl⟩
 .cases h
def KP(V:bC cx){o:Oper}{t:TypeId}{x i:Operand}(ho:o.op= .indexAddr t x i)(h:eX cx st t (st.ev cx x) (st.ev cx i) k):∃v bs,de cx o st v bs/\k v bs:=by
 have he:∀ρ,execOp ρ o=(do pure (.value<|<- Instr.indexAt t (ρ x)<|ρ i):Sem Next):=λρ=>by simp only[execOp,ho]
 unfold eX at h;split at h
 .rename_i ki n hi;split at h
  .rename_i e U hE;obtain⟨ti,ht,Z,N⟩:=cE hE;split at h
   .rename_i sz rows hx;split at h
    .rename_i H;obtain rfl:sz=U.size:=bg H;obtain⟨h0,row,hY,G⟩:=h;refine⟨_,[],dg _ he λE st' σ a w j D=>?_,G⟩;have K:=D.ev j x;have J:=D.ev j i;rw[hx]at K;rw[hi]at J;rw[J.int];exact Cu V ht Z N K h0 hY
    .exact h.elim
   .rename_i s hx;split at h
    .rename_i te sz rows fl Y;split at h
     .rename_i H;obtain rfl:sz=U.size:=bg H;obtain⟨h0,W,G⟩:=h;refine⟨_,[],dg _ he λE st' σ a w j D=>?_,G⟩;have K:=D.ev j x;have J:=D.ev j i;rw[hx]at K;rw[hi]at J;rw[J.int];obtain⟨xs,o1,_⟩:=D.holds.blk s _<|j.heap s _ Y;exact Ii (F:=E.F) V ht Z N K o1 h0 W
     .exact h.elim
    .rename_i te sz rows Y;split at h
     .rename_i H;obtain rfl:sz=U.size:=bg H;obtain⟨h0,W,G⟩:=h;refine⟨_,[],dg _ he λE st' σ a w j D=>?_,G⟩;have K:=D.ev j x;have J:=D.ev j i;rw[hx]at K;rw[hi]at J;rw[J.int];obtain⟨g,cur,tt,T,_⟩:=D.holds.blk s _<|j.heap s _ Y;obtain⟨_,_,_,_,t2,X,_⟩:=V _ _ ht;rw[Z]at X;obtain rfl:=cd X;obtain⟨_,r2⟩:=dU (w:=w) V N;generalize a.eval x=u at K;cases K with|own _ hL =>
       have I :n<rows.length:=by omega
       refine⟨.pointer<|some ⟨g,0+(n.toNat*U.size+0),none⟩,?_,.dy s _ _ _ g _ _ 0 hL T⟩;rw[T];simp[Instr.indexAt,asIntOf,run_underlying t2,h0,I,r2,dx]
     .exact h.elim
    .rename_i te sz rows Y;split at h
     .rename_i H;obtain rfl:sz=U.size:=bg H;obtain⟨h0,W,G⟩:=h;refine⟨_,[],dg _ he λE st' σ a w j D=>?_,G⟩;have K:=D.ev j x;have J:=D.ev j i;rw[hx]at K;rw[hi]at J;rw[J.int];obtain⟨⟨aa,cap,T,⟨_,hc,_⟩,_,h4⟩,_⟩:=D.holds.blk s _<|j.heap s _ Y;obtain⟨_,_,_,_,t2,X,_⟩:=V _ _ ht;rw[Z]at X;obtain rfl:=cd X;obtain⟨_,r2⟩:=dU (w:=w) V N;rcases h4 with ⟨_,hz⟩|⟨g,off,cur,rfl,_⟩
      .omega
      generalize a.eval x=u at K
      cases K with|own _ hL =>
       have I :n<rows.length:=by omega
       refine⟨.pointer<|some ⟨g,off+(n.toNat*U.size+0),none⟩,?_,.dy s _ _ _ g _ _ off hL T⟩;rw[T];simp[Instr.indexAt,asIntOf,run_underlying t2,h0,I,r2,dx]
     .exact h.elim
    .exact h.elim
   .rename_i s kd i0 hx;split at h
    .rename_i te sz rows fl Y;split at h
     .rename_i H kb;obtain rfl:kd=sz:=bg kb;obtain rfl:kd=U.size:=bg H;obtain⟨h0,W,G⟩:=h;refine⟨_,[],dg _ he λE st' σ a w j D=>?_,G⟩;have K:=D.ev j x;have J:=D.ev j i;rw[hx]at K;rw[hi]at J;rw[J.int];obtain⟨xs,o1,_⟩:=D.holds.blk s _<|j.heap s _ Y;obtain⟨_,_,_,_,t2,X,_⟩:=V _ _ ht;rw[Z]at X;obtain rfl:=cd X;obtain⟨_,r2⟩:=dU (w:=w) V N;generalize a.eval x=u at K;cases K with|tl _ _ _ g m cap o0 hL T =>
       rcases o1.2 with ⟨e2,hz⟩|⟨g',hA,cur,e2,_⟩
       .rw[T]at e2;cases e2
       .rw[T]at e2;cases e2;have I :n<((rows.length-i0:Nat):Int):=by omega
        have kI:=aC.dy (w:=w) (O:=E.O) (L:=live st'.heap) (σ:=σ) s U.size (i0+n.toNat) 0 g _ _ 0 hL T;refine⟨_,?_,kI⟩;simp[Instr.indexAt,asIntOf,run_underlying t2,h0,I,r2,dx,Nat.add_mul]
     .exact h.elim
    .exact h.elim
   .exact h.elim
  .split at h
   .rename_i m U kh;obtain⟨ti,e,ht,Z,N⟩:=yH kh;obtain⟨h0,h1,h⟩:=h;refine mB _ he (λv hv E st' σ a w j D=>?_) h;have J:=D.ev j i;rw[hi]at J;rw[J.int];exact DD V ht Z N (D.ev j x) h0 h1 hv
   .exact h.elim
 .exact h.elim
def XK(J:bC cx){o:Oper}{t:TypeId}{x i:Operand}(V:o.op= .index t x i)(h:tZ cx t (st.ev cx x) (st.ev cx i) k):∃v bs,de cx o st v bs/\k v bs:=by
 have N:∀ρ,execOp ρ o=(do pure (.value<|<- Instr.index t (ρ x)<|ρ i):Sem Next):=λρ=>by simp only[execOp,V]
 unfold tZ at h;split at h
 .rename_i s Y n X T D;obtain⟨Z,W,U⟩:=ln D;obtain⟨h0,c,K,G⟩:=h;refine⟨_,[],dg _ N λE st' σ a w j D=>?_,G⟩;have I:=D.ev j x;have H:=D.ev j i;rw[X]at I;rw[T]at H;rw[H.int];exact TV J W U I h0 K
 .exact h.elim
def De{E:Env}{st' :St}{σ:Nat->Value}{a:Act}{w:World}(G:st.le st')(J:bS cx E st' σ a w)(D:Option Operand){j:Nat}{l:Int}(h:bnd j (D.map<|st.ev cx)=some l) :
 ((D.map a.eval)=none/\l=j)\/ ∃k,D.map a.eval=some (.int k l) :=
 Zs (λx H=>by cases D with
  |none=>cases H
  |some y=>cases H;exact⟨_,rfl,J.ev G y⟩) (λI=>by cases D with
  |none=>rfl
  |some y=>cases I) h
def ok_slice(Z:bC cx){o:Oper}{t:TypeId}{x:Operand}{J I:Option Operand}(ho:o.op= .slice t x J I none)(h:yU cx t (st.ev cx x) (J.map<|st.ev cx) (I.map<|st.ev cx) k):∃v bs,de cx o st v bs/\k v bs:=by
 have he:∀ρ,execOp ρ o=(do pure (.value<|<- Instr.sliceAt t (ρ x) (J.map ρ) (I.map ρ) none):Sem Next):=λρ=>by simp only[execOp,ho,Option.map_none]
 unfold yU at h;split at h
 .rename_i s Y;split at h
  .rename_i l hh G U V;obtain⟨ti,X,T⟩:=ln G;obtain⟨h0,h1,K,H⟩:=h;refine⟨_,[],dg _ he λE st' σ a w j G=>?_,H⟩;have D :=G.ev j x;rw[Y]at D;exact ZC Z X T D (De j G J U) (De j G I V) h0 h1 K
  .exact h.elim
 .rename_i sz rows Y;split at h
  .rename_i e ei l hh G U V;obtain⟨ti,X,T,N⟩:=cE G;split at h
   .rename_i W;obtain rfl:sz=ei.size:=bg W;obtain⟨h0,h1,K,H⟩:=h;refine⟨_,[],dg _ he λE st' σ a w j G=>?_,H⟩;have D :=G.ev j x;rw[Y]at D;exact Qy Z X T N D (De j G J U) (De j G I V) h0 h1 K
   .exact h.elim
  .exact h.elim
 .exact h.elim
end

section
variable {cx:Cx} {st:St} {k:KK}
def NV{o:Oper}{x:Operand}(J:o.op= .nilCheck x)(h:opK cx o.dst o.type st (.nilCheck x) k):∃v bs,de cx o st v bs/\k v bs:=by
 simp only[opK]at h;split at h
 .rename_i I;refine⟨_,[],de.value λE st' σ a w D G=>?_,h⟩;have j:=G.ev D x;rw[I]at j;refine⟨a.eval x,?_,j⟩;generalize H:a.eval x=u at j;cases j;simp[execOp,J,H]
 .rename_i I;refine⟨_,[],de.value λE st' σ a w D G=>?_,h⟩;have j:=G.ev D x;rw[I]at j;refine⟨a.eval x,?_,j⟩;generalize H:a.eval x=u at j;cases j;simp[execOp,J,H]
 .rename_i I;refine⟨_,[],de.value λE st' σ a w D G=>?_,h⟩;have j:=G.ev D x;rw[I]at j;refine⟨a.eval x,?_,j⟩;generalize H:a.eval x=u at j;cases j with|d _ _ j=>cases j;simp[execOp,J,H]
 .rename_i I;refine⟨_,[],de.value λE st' σ a w D G=>?_,h⟩;have j:=G.ev D x;rw[I]at j;refine⟨a.eval x,?_,j⟩;generalize H:a.eval x=u at j;cases j;simp[execOp,J,H]
 .rename_i I;refine⟨_,[],de.value λE st' σ a w D G=>?_,h⟩;have j:=G.ev D x;rw[I]at j;refine⟨a.eval x,?_,j⟩;generalize H:a.eval x=u at j;cases j with|d _ _ j=>cases j;simp[execOp,J,H]
 .exact h.elim
def iK{w:World}{O L:Nat->Prop}{σ:Nat->Value}{c:AV}{v:Value}(h:kX c v):(c.one=true\/c= .undef)/\aC w O L σ c v:=by
 unfold kX at h;split at h<;>first|exact h.elim|skip
 .subst h;exact⟨.inl rfl,.mkInt _ _⟩
 .subst h;exact⟨.inl rfl,.gy _⟩
 .subst h;exact⟨.inl rfl,.d _ _<|.str _ _<|by simp⟩
 .subst h;exact⟨.inl rfl,.nil _⟩
 .subst h;exact⟨.inl rfl,.d _ _ .jg⟩
 .exact⟨.inr rfl,.undef _⟩
def Jv{w:World}{F O L D :Nat->Prop}{σ σ' :Nat->Value}{d:Nat}{cs:List AV}{vs:Array Value}{t:TypeId}(K:∀s,L s->D s/\σ' s=σ s)
 (I:bx w (w.alloc<|.cells vs t) (Own O L σ)<|Own O D σ') (N:σ' d= .pointer (some ⟨w.heap.size,0,none⟩)) (H:F w.heap.size) (J:vs.size=cs.length) (h:∀j c,cs[j]? =some c->(c.one=true\/c= .undef)/\aC w O L σ c (vs.getD j Go.undef)) :
 du (w.alloc<|.cells vs t) F O D σ' d (.box cs) :=
 ⟨w.heap.size,vs,t,N,H,heap_alloc_new w _,J,λj c G=>⟨(h j c G).1,(h j c G).2.mono I K⟩⟩
def XI(N:bC cx){o:Oper}{e:TypeId}(I:o.op= .alloc e)(h:opK cx o.dst o.type st (.alloc e) k):∃v bs,de cx o st v bs/\k v bs:=by
 simp only[opK]at h;split at h
 .rename_i d i hd V;refine⟨_,_,de.new (by rw[I];rfl) (by assumption) λE st' σ a w Y hs=>?_,h⟩;obtain⟨J,G,z,Z,i2,i3,i4,i5,i6,i7,i8,i9,i10⟩:=N _ _ V;refine⟨w.alloc<|.cells z.cells e,.pointer<|some ⟨w.heap.size,0,none⟩,.pointer<|some ⟨w.heap.size,0,none⟩,?_,lR _ _,λg U=>by cases U;exact Nat.le_refl _,λσ' H K W D X=>⟨?_,?_⟩⟩
  .simp[execOp,I,Instr.alloc,zeroValue,typeInfo,Z,i6,newVar,newRow,newObj,Sem.run]
  .exact Jv D W H (K _<|Nat.le_refl _) i7 λj c T=>iK<|i9 j c T
  .exact .ptr _ _ _ X H
 .exact h.elim
def abx(hT:bC cx){o:Oper}{e:TypeId}{x:Operand}(K:o.op= .box e x)(h:opK cx o.dst o.type st (.box e x) k):∃v bs,de cx o st v bs/\k v bs:=by
 simp only[opK]at h;split at h
 .rename_i d T hd G;split at h
  .rename_i cs Y;obtain rfl:=uj Y;split at h
   .rename_i D;refine⟨_,_,de.new (by rw[K];rfl) (by assumption) λE st' σ a w H N=>?_,h⟩;obtain⟨Z,k2⟩:=kZ G N.one<|N.ev H x;refine⟨w.alloc<|.cells (a.eval x).cells e,.pointer<|some ⟨w.heap.size,0,none⟩,.pointer<|some ⟨w.heap.size,0,none⟩,?_,lR _ _,λg V=>by cases V;exact Nat.le_refl _,λσ' J U W I X=>⟨?_,?_⟩⟩
    .simp[execOp,K,Instr.box,newVar,newRow,newObj,Sem.run]
    .exact Jv I W J (U _<|Nat.le_refl _) Z λj c G=>⟨.inl<|aG.1 D c<|aw G,k2 j c G⟩
    .exact .ptr _ _ _ X J
   .exact h.elim
  .exact h.elim
 .exact h.elim
def NO(I:bC cx)(w:World)(g:List Field)(h:∀j∈g,(cx.ty j.type).isSome=true) :
 (g.mapM (m:=Sem) λf=>Prod.mk f.offset <$> Go.sizeOf f.type).run cx.P w= .ok (g.map λf=>(f.offset,match cx.ty f.type with|some i=>i.size|none=>0)) w:=by
 induction g with
 |nil=>simp[List.mapM_nil]
 |cons f t G =>
  have H:=h f (by simp);cases D:cx.ty f.type with
  |none=>rw[D]at H;cases H
  |some i =>
   have K:=(dU (w:=w) I D).2;have G:=G λx J=>h x (by simp[J])
   simp[List.mapM_cons,K,G,D]
def XJ(T:bC cx){o:Oper}{t:TypeId}{D:Array<|Nat×Operand}(ho:o.op= .build t D)(h:rO cx st t D.toList k):∃v bs,de cx o st v bs/\k v bs:=by
 unfold rO at h;split at h
 .rename_i sz hI fs zero ht
  split at h
  .rename_i kQ U;split at h
   .rename_i cs hn I;obtain rfl:=uj hn;refine⟨_,[],de.value λE st' σ a w K X=>?_,h⟩;obtain⟨info,Z,z,i1,i2,i3,i4,i5,i6,i7,i8,i9,i10⟩:=T _ _ ht;obtain⟨g,rfl,rfl⟩:=sw i3;have N:=NO T w g.toList λG U=>aG.1 I (G.offset,G.type)<|List.mem_map.2 ⟨G,U,rfl⟩;have H :(g.mapM (m:=Sem) λf=>Prod.mk f.offset <$> Go.sizeOf f.type).run cx.P w= .ok (g.toList.map λf=>(f.offset,match cx.ty f.type with|some i=>i.size|none=>0)).toArray w:=by
     rw[Array.mapM_eq_mapM_toList];simp[N]
    obtain⟨Y,f1,f2,f3⟩:=Tz (w:=w) (O:=E.O) (L:=live st'.heap) (σ:=σ) T X.one (places:=(g.toList.map λf=>(f.offset,match cx.ty f.type with|some i=>i.size|none=>0)).toArray)
     (λi G fi hg V=>by
      have:g.toList[i]? =some G:=by rw[bE];exact hg
      simp[hg,V])
     _ (D.toList.map λp=>(p.1,a.eval p.2)) _ _ z.cells U (by simp) (λj p J=>by
      rw[bc]at J;cases hp:D.toList[j]? with
      |none=>rw[hp]at J;cases J
      |some q =>
       rw[hp]at J;cases J;refine⟨a.eval q.2,by rw[bc,hp];rfl,?_⟩;dsimp only[Ed];split
       .exact kP<|X.ev K q.2
       .exact X.ev K q.2) i7 (λj c hc=>(iK<|i9 j c hc).2)
    refine⟨.agg Y,?_,.agg _ _ f2 f3⟩;have W:(D.map λ(x:Nat×Operand)=>(x.1,a.eval x.2)).toList=D.toList.map λp=>(p.1,a.eval p.2):=by simp
    simp only[List.getElem?_toArray,bc,bE]at f1;simp only[execOp,ho,Instr.build];simp[zeroValue,typeInfo,i1,i6,run_underlying i2,H,W,f1]
   .exact h.elim
  .exact h.elim
 .exact h.elim
def NU{o:Oper}{fn:Go.Fn}{first D:Array Operand}(K:o.op= .makeFunc fn first D)(h:opK cx o.dst o.type st (.makeFunc fn first D) k):∃v bs,de cx o st v bs/\k v bs:=by
 simp only[opK]at h;split at h
 .rename_i f;refine⟨_,[],de.value λE st' σ a w I N=>?_,h⟩;have J:∀(xs:Array Operand) (j:Nat) c,(xs.toList.map<|st.ev cx)[j]? =some c->aC w E.O (live st'.heap) σ c ((xs.map a.eval).getD j Go.undef):=λxs j c G=>by
   rw[bc]at G;cases H:xs.toList[j]? with
   |none=>rw[H]at G;cases G
   |some x =>
    rw[H]at G;cases G;have:(xs.map a.eval).getD j Go.undef=a.eval x:=by rw[bE]at H;simp[H]
    rw[this];exact N.ev I x
  exact⟨.func (.func f) (first.map a.eval)<|D.map a.eval,by simp[execOp,K,Instr.makeFunc],.fn _ _ _ _ _ (by simp) (by simp) (J first)<|J D⟩
 .exact h.elim
def Cv(H:bC cx){t:TypeId}(h:isMap cx t=true):∃D j,cx.P.underlying t=some (.map D j):=by
 unfold isMap at h;split at h
 .rename_i D j zero I;obtain⟨_,_,_,_,G,J,_⟩:=H _ _ I;rw[kK J]at G;exact⟨_,_,G⟩
 .cases h
def aby(V:bC cx){o:Oper}{x:Operand}{t:TypeId}{c:Call}(ho:o.op= .call c)(hc:c.callee= .builtin .len)(ha:c.args.toList=[x])(ht:c.argTypes.toList=[t])(h:mS cx st t (st.ev cx x) k):∃v bs,de cx o st v bs/\k v bs:=by
 have kg :c.args= #[x]:=by rw[<- Array.toList_inj];exact ha
 have kL :c.argTypes= #[t]:=by rw[<- Array.toList_inj];exact ht
 have W:∀ρ,execOp ρ o=(do pure (.value<|<- Builtin.len_ #[t] o.type #[ρ x]):Sem Next):=λρ=>by
  simp[execOp,ho,resolve,hc,kg,kL,invoke,builtin]
 unfold mS at h;split at h
 .rename_i s I;split at h
  .rename_i G;obtain⟨Y,h1,N⟩:=ln G;refine⟨_,[],dg _ W λE st' σ a w j G=>?_,h⟩;have D:=G.ev j x;rw[I]at D;obtain⟨b,hb,kj⟩:=D.str;obtain⟨_,_,_,_,K,H,_⟩:=V _ _ h1;rw[N]at H;obtain rfl:=ga H;rw[hb];refine⟨.int .i64 b.size,by simp[Builtin.len_,run_underlying K,goInt],?_⟩;rw[<- kj,Array.length_toList];exact .mkInt _ _
  .exact h.elim
 .rename_i sz rows I;split at h
  .rename_i e G;obtain⟨Y,h1,N,_⟩:=cE G;refine⟨_,[],dg _ W λE st' σ a w j G=>?_,h⟩;have D:=G.ev j x;rw[I]at D;obtain⟨aa,cap,hv,_⟩:=D.JW;obtain⟨_,_,_,_,K,H,_⟩:=V _ _ h1;rw[N]at H;obtain rfl:=cd H;rw[hv];exact⟨.int .i64 rows.length,by simp[Builtin.len_,run_underlying K,goInt],.mkInt _ _⟩
  .exact h.elim
 .rename_i sz I;split at h
  .rename_i e G;obtain⟨Y,h1,N,_⟩:=cE G;refine⟨_,[],dg _ W λE st' σ a w j G=>?_,h⟩;have D:=G.ev j x;rw[I]at D;obtain⟨_,_,_,_,K,H,_⟩:=V _ _ h1;rw[N]at H;obtain rfl:=cd H;generalize a.eval x=u at D;cases D;exact⟨.int .i64 0,by simp[Builtin.len_,run_underlying K,goInt],.mkInt _ _⟩
  .exact h.elim
 .rename_i s I;split at h
  .rename_i e te sz rows fl G U;obtain⟨Y,h1,N,_⟩:=cE G;refine⟨_,[],dg _ W λE st' σ a w j G=>?_,h⟩;have D:=G.ev j x;rw[I]at D;obtain⟨_,_,_,_,K,H,_⟩:=V _ _ h1;rw[N]at H;obtain rfl:=cd H;obtain⟨xs,o1,_⟩:=G.holds.blk s _<|j.heap s _ U;generalize a.eval x=u at D;cases D with|own _ hL =>
    rcases o1.2 with ⟨J,X⟩|⟨g,cap,cur,J,_⟩
    .rw[J,X];exact⟨.int .i64 0,by simp[Builtin.len_,run_underlying K,goInt],.mkInt _ _⟩
    .rw[J];exact⟨.int .i64 rows.length,by simp[Builtin.len_,run_underlying K,goInt],.mkInt _ _⟩
  .rename_i e te sz rows G U;obtain⟨Y,h1,N,_⟩:=cE G;refine⟨_,[],dg _ W λE st' σ a w j G=>?_,h⟩;have D:=G.ev j x;rw[I]at D;obtain⟨_,_,_,_,K,H,_⟩:=V _ _ h1;rw[N]at H;obtain rfl:=cd H;obtain⟨g,cur,tt,J,_⟩:=G.holds.blk s _<|j.heap s _ U;generalize a.eval x=u at D;cases D with|own _ hL =>
    rw[J];exact⟨.int .i64 rows.length,by simp[Builtin.len_,run_underlying K,goInt],.mkInt _ _⟩
  .rename_i e te sz rows G U;obtain⟨Y,h1,N,_⟩:=cE G;refine⟨_,[],dg _ W λE st' σ a w j G=>?_,h⟩;have D:=G.ev j x;rw[I]at D;obtain⟨_,_,_,_,K,H,_⟩:=V _ _ h1;rw[N]at H;obtain rfl:=cd H;obtain⟨⟨aa,cap,J,_⟩,_⟩:=G.holds.blk s _<|j.heap s _ U;generalize a.eval x=u at D;cases D with|own _ hL =>
    rw[J];exact⟨.int .i64 rows.length,by simp[Builtin.len_,run_underlying K,goInt],.mkInt _ _⟩
  .exact h.elim
 .rename_i s kd i0 I;split at h
  .rename_i e te sz rows fl G U;obtain⟨Y,h1,N,_⟩:=cE G;refine⟨_,[],dg _ W λE st' σ a w j G=>?_,h⟩;have D:=G.ev j x;rw[I]at D;obtain⟨_,_,_,_,K,H,_⟩:=V _ _ h1;rw[N]at H;obtain rfl:=cd H;obtain⟨xs,o1,_⟩:=G.holds.blk s _<|j.heap s _ U;generalize a.eval x=u at D;cases D with|tl _ _ _ g m cap o0 hL J =>
    rcases o1.2 with ⟨X,hz⟩|⟨g',hA,cur,X,_⟩
    .rw[J]at X;cases X
    .rw[J]at X;cases X;exact⟨.int .i64 ((rows.length-i0:Nat):Int),by simp[Builtin.len_,run_underlying K,goInt],.mkInt _ _⟩
  .exact h.elim
 .rename_i s I;split at h
  .rename_i m hm U;obtain⟨kt,et,Z⟩:=Cv V hm;refine⟨_,[],dg _ W λE st' σ a w j G=>?_,h⟩;have D:=G.ev j x;rw[I]at D;obtain⟨g,es,T,J,_,e3,e4⟩:=G.holds.blk s _<|j.heap s _ U;generalize a.eval x=u at D;cases D with|omap _ hL =>
    rw[J];exact⟨.int .i64 es.size,by simp[Builtin.len_,run_underlying Z,goInt,getObj,Sem.run,e3],by rw[e4.1.1];exact .mkInt _ _⟩
  .rename_i m hm U;obtain⟨kt,et,Z⟩:=Cv V hm;refine⟨_,[],dg _ W λE st' σ a w j G=>?_,h⟩;have D:=G.ev j x;rw[I]at D;obtain⟨g,es,T,J,_,e3,⟨e4,_⟩,_⟩:=G.holds.blk s _<|j.heap s _ U;generalize a.eval x=u at D;cases D with|omap _ hL =>
    rw[J];exact⟨.int .i64 es.size,by simp[Builtin.len_,run_underlying Z,goInt,getObj,Sem.run,e3],by rw[e4];exact .mkInt _ _⟩
  .exact h.elim
 .rename_i m I;split at h
  .rename_i hm;obtain⟨kt,et,Z⟩:=Cv V hm;refine⟨_,[],dg _ W λE st' σ a w j G=>?_,h⟩;have D:=G.ev j x;rw[I]at D;generalize a.eval x=u at D;cases D with|d _ _ D =>
    obtain⟨b,T,es,rfl,_,_,e3,e4⟩:=D.Ze;exact⟨.int .i64 es.size,by simp[Builtin.len_,run_underlying Z,goInt,getObj,Sem.run,e3],by rw[e4.1.1];exact .mkInt _ _⟩
  .exact h.elim
 .exact h.elim
end

section
variable {cx:Cx} {st:St} {k:KK}
def Rw(Z:bC cx){o:Oper}{t:TypeId}{r:Option Operand}(K:o.op= .makeMap t r)(h:opK cx o.dst o.type st (.makeMap t r) k):∃v bs,de cx o st v bs/\k v bs:=by
 have run:∀{b:Bool},FK cx t=some b->Kt (r.map<|st.ev cx)=true-> ∀(E:Env) st' σ a w,st.le st' ->bS cx E st' σ a w->(execOp a.eval o).run cx.P w= .ok (.value<|.map<|some w.heap.size) (w.alloc<|.map #[] 0):=by
  intro b H G E st' σ a w D J;cases r with
  |none=>simp[execOp,K,Instr.makeMap,newObj,Sem.run]
  |some x =>
   have X:=J.ev D x;simp only[Option.map_some,Kt]at G;split at G
   .rename_i e;cases e
   .rename_i k n hx;rw[Option.some.inj hx]at X;unfold FK at H;split at H
    .rename_i kt et zero ht;obtain⟨_,_,_,_,Y,t3,_⟩:=Z _ _ ht;rw[kK t3]at Y;simp[execOp,K,Instr.makeMap,X.int,run_underlying Y,asInt,asIntOf,newObj,Sem.run]
    .cases H
   .cases G
 simp only[opK]at h;split at h
 .rename_i d hd G H;refine⟨_,_,de.new (by rw[K];rfl) (by assumption) λE st' σ a w D J=>?_,h⟩;refine⟨w.alloc<|.map #[] 0,.map<|some w.heap.size,.map<|some w.heap.size,run H G E st' σ a w D J,lR _ _,λg T=>by cases T;exact Nat.le_refl _,λσ' I N hk W V=>⟨?_,?_⟩⟩
  .exact⟨w.heap.size, #[],0,I,N _<|Nat.le_refl _,heap_alloc_new w _,⟨rfl,EN 0⟩,λj kk v U=>by simp at U⟩
  .rw[<- I];exact .omap _ V
 .rename_i d hd G H;refine⟨_,_,de.new (by rw[K];rfl) (by assumption) λE st' σ a w D J=>?_,h⟩;refine⟨w.alloc<|.map #[] 0,.map<|some w.heap.size,.map<|some w.heap.size,run H G E st' σ a w D J,lR _ _,λg T=>by cases T;exact Nat.le_refl _,λσ' I N hk W V=>⟨?_,?_⟩⟩
  .exact⟨w.heap.size, #[],0,I,N _<|Nat.le_refl _,heap_alloc_new w _,⟨rfl,EN 0⟩,λj kk v U=>by simp at U⟩
  .rw[<- I];exact .omap _ V
 .exact h.elim
def Lj{w w' :World}{F O L G :Nat->Prop}{σ σ' :Nat->Value}{d n:Nat}{e:TypeId}{size:Nat}{rows:List<|List D}{τ:Value}{xs:List Value}{fl:Bool}(hs:∀s,L s->G s/\σ' s=σ s)(H:fl=true-> ∃a,τ= .slice a n n)
 (T:bx w w' (Own O L σ)<|Own O G σ') (Z:σ' d=τ) (I:∀b,home τ=some b->F b) (U:rows.length=n) (V:w'.ownsRow 0 e size τ n xs) (Y:0<size) (W:∀r∈rows,r.length=size/\ ∀d∈r,d.one=true)
 (h:∀i r j d,rows[i]? =some r->r[j]? =some d-> ∃u,xs[i*size+j]? =some u/\Rep w (Own O L σ) d u):du w' F O G σ' d<|.row e size rows fl:=by
 subst U Z;refine⟨xs,V,I,⟨Y,H⟩,W,λi r j d K N=>?_⟩;obtain⟨u,X,J⟩:=h i r j d K N;exact⟨u,X,J.mono T⟩
def Il{z:Array Value}{n size j:Nat}(K:z.size=size)(N:0<size)(i:Nat)(H:i<n)(I:j<size):(madeCells z<|n*size).toList[i*size+j]? =some (z.getD j Go.undef):=by
 have G:i*size+j<n*size:=by
  have:(i+1)*size<=n*size:=Nat.mul_le_mul_right _ H;rw[Nat.add_mul]at this;omega
 have J:(i*size+j) % z.size=j:=by rw[K,Nat.add_comm,Nat.add_mul_mod_self_right,Nat.mod_eq_of_lt I]
 have D :j<z.size:=by omega
 simp[madeCells,G];rw[J];simp[D]
def KQ(hT:bC cx){o:Oper}{t:TypeId}{l c:Operand}(ho:o.op= .makeSlice t l c)(h:mf cx o.dst t (st.ev cx l) (st.ev cx c) (Ep l c) k):∃v bs,de cx o st v bs/\k v bs:=by
 unfold mf at h;split at h
 .rename_i d e V kl n kc m hd hE N hc;split at h
  .rename_i z hz;obtain⟨h0,h1,h2,h3,h4,h⟩:=h;split at h
   .rename_i G;have G:1<=V.size:=bA G;obtain⟨ti,ht,hD,hR⟩:=cE hE;refine⟨_,_,de.new (by rw[ho];rfl) (by assumption) λE st' σ a w X hs=>?_,h⟩;obtain⟨_,_,_,_,t2,t3,_⟩:=hT _ _ ht;rw[hD]at t3;obtain rfl:=cd t3;obtain⟨I,desc,zv,i1,i2,i3,i4,i5,i6,i7,i8,i9,i10⟩:=hT _ _ hR;have T:=hs.ev X l;rw[N]at T;have J:=hs.ev X c;rw[hc]at J;obtain⟨l1,l2⟩:=cF hz;have Z:∀(j:Nat) x,z[j]? =some x->x.one=true/\Rep w (Own E.O (live st'.heap) σ) x (zv.cells.getD j Go.undef):=λj x K=>by
     obtain⟨cc,km,W⟩:=l2 j x K;obtain⟨H,e2⟩:=iK (w:=w) (O:=E.O) (L:=live st'.heap) (σ:=σ)<|i9 j cc km;refine⟨?_,jE W e2⟩;rcases H with H|rfl
     .cases cc<;>simp only[fw]at W<;>first|(cases W;exact H)|(cases W;rfl)|cases W
     .cases W
    have kM:z.length=V.size:=l1.trans i8.symm;have D:∀(q:Nat) r,r∈List.replicate q z->r.length=V.size/\ ∀x∈r,x.one=true:=λq r hr=>by
     obtain⟨_,rfl⟩:=List.mem_replicate.1 hr;exact⟨kM,λx hx=>by obtain⟨j,K,rfl⟩:=List.getElem_of_mem hx;exact(Z j _<|ao K).1⟩
    have Y:m=(m.toNat:Int):=by omega
    have kD:Ep l c=true->n=m:=λe=>by rw[UG e,hc]at N;cases N;rfl
    rcases h1 with rfl|rfl
    .obtain⟨w',r1,r2,r3⟩:=run_make_full (P:=cx.P) w 0 t e I zv V.size t2 i1 i6 i4 kl kc n.toNat (by rw[i5,Nat.mul_comm];omega) (by simp[maxLen];omega)<|Nat.zero_le _;refine⟨w',.slice (some ⟨w.heap.size,0,none⟩) n.toNat n.toNat,.slice (some ⟨w.heap.size,0,none⟩) n.toNat n.toNat,?_,sJ r3,λg hg=>by cases hg;exact Nat.le_refl _,λσ' H hF hk U N=>⟨?_,?_⟩⟩
     .rw[<- Y]at r1;simp[execOp,ho,T.int,J.int,r1]
     .refine Lj U (λ_=>⟨_,rfl⟩) hk H (λb hb=>by cases hb;exact hF _<|Nat.le_refl _) (by simp) r2 G (D _) λi r j x hi K=>?_
      have ku :i<n.toNat:=by have:=(aA.1 hi).1;simpa using this
      obtain⟨_,rfl⟩:=List.mem_replicate.1<|aw hi;have kv :j<V.size:=by have:=(aA.1 K).1;omega
      exact⟨_,Il (by rw[i7, <- i8]) G i ku kv,(Z j x K).2⟩
     .have:=aC.own (w:=w') (O:=E.O) (σ:=σ') d N;rw[H]at this;exact this
    .obtain⟨w',r1,r2,r3⟩:=run_make_own (P:=cx.P) w 0 t e I zv V.size t2 i1 i6 i4 kl kc m.toNat (by rw[i5,Nat.mul_comm];omega) (by simp[maxLen];omega)<|Nat.zero_le _;refine⟨w',.slice (some ⟨w.heap.size,0,none⟩) 0 m.toNat,.slice (some ⟨w.heap.size,0,none⟩) 0 m.toNat,?_,sJ r3,λg hg=>by cases hg;exact Nat.le_refl _,λσ' H hF hk U N=>⟨?_,?_⟩⟩
     .rw[<- Y]at r1;simp[execOp,ho,T.int,J.int,r1]
     .exact Lj U (λe=>⟨_,by rw[<- kD e];rfl⟩) hk H (λb hb=>by cases hb;exact hF _<|Nat.le_refl _) (by simp) r2 G (D _) λi r j x hi K=>by simp at hi
     .have:=aC.own (w:=w') (O:=E.O) (σ:=σ') d N;rw[H]at this;exact this
   .exact h.elim
  .exact h.elim
 .exact h.elim
def pB{w:World}{O L:Nat->Prop}{σ:Nat->Value}{x:D}{u:Value}(h:Rep w (Own O L σ) x u):aC w O L σ x.gT u:=by
 unfold D.gT;split
 .rename_i cells;cases h with|agg _ vs J h1 I =>
  refine .agg _ _ (by simpa using J) λj c G=>?_
  rw[bc]at G;cases H:cells[j]? with
  |none=>rw[H]at G;cases G
  |some y=>rw[H]at G;cases G;exact .d _ _<|I j y H
 .exact .d _ _ h
def EE{w:World}{O L:Nat->Prop}{σ:Nat->Value}(b:ByteArray):∀(m:List<|List UInt8×D) (es:List MapEntry) (i:Nat),es.length=m.length ->
 (∀(j:Nat) k v,m[j]? =some (k,v)-> ∃e,es[j]? =some e/\Rep w (Own O L σ) (.str k) e.key/\Rep w (Own O L σ) v e.val) ->
 (bH b.data.toList m=none/\Instr.findNow .string (.string b) es i=some none)\/ ∃j v e,bH b.data.toList m=some v/\Instr.findNow .string (.string b) es i=some (some (i+j,e.val))/\es[j]? =some e/\m[j]? =some (b.data.toList,v)/\Rep w (Own O L σ) v e.val/\e.key= .string b /\
  ∀J,cy b.data.toList J m=m.set j (b.data.toList,J):=by
 intro m;induction m with
 |nil=>intro es i K _;obtain rfl:es=[]:=List.eq_nil_of_length_eq_zero K;exact .inl ⟨rfl,rfl⟩
 |cons p m ih =>
  obtain⟨k,v⟩:=p;intro es i K h;cases es with
  |nil=>simp at K
  |cons e es =>
   obtain⟨N,he,W,hv⟩:=h 0 k v rfl;obtain rfl:e=N :=by simpa using he
   have kR:=W;generalize G:e.key=ke at W;cases W with|str _ c X =>
    by_cases H:b.data.toList=k
    .have I:b=c:=by
      have:b.data=c.data:=by rw[<- Array.toList_inj];rw[H,X]
      cases b;cases c;simp_all
     subst I;refine .inr ⟨0,v,e,by simp[bH,H],?_,rfl,by simp[H],hv,G,λJ =>by simp[cy,H]⟩;have V:(b==b)=true:=(MapKept.bytes_beq b b).2 rfl;simp[Instr.findNow,G,Instr.sameNow,V]
    .have I:(b==c)=false:=by
      rw[<- Bool.not_eq_true];intro hh;have:b=c:=(MapKept.bytes_beq b c).1 hh;exact H (by rw[this];exact X)
     have Y:∀r,Instr.findNow .string (.string b) (e::es) i=r ↔ Instr.findNow .string (.string b) es (i+1)=r:=λr=>by
      simp[Instr.findNow,G,Instr.sameNow,I]
     rcases ih es (i+1) (by simpa using K) (λj k v hj=>h (j+1) k v hj)with ⟨T,U⟩|⟨j,J,N,T,U,Z,g4,g5,g6,g7⟩
     .exact .inl ⟨by simp[bH,H,T],(Y _).2 U⟩
     .exact .inr ⟨j+1,J,N,by simp[bH,H,T],(Y _).2<|by rw[U,show i+1+j=i+(j+1) by omega],by simpa using Z,by simpa using g4,g5,g6,λkN =>by simp[cy,H,g7]⟩
def CV{α:Type}{R:α->Value->Prop}(b:ByteArray):∀(m:List<|List UInt8×α) (es:List MapEntry) (i:Nat),es.length=m.length ->
 (∀(j:Nat) k v,m[j]? =some (k,v)-> ∃e,es[j]? =some e/\fq (.str k) e.key/\R v e.val) ->
 (bH b.data.toList m=none/\Instr.findNow .string (.string b) es i=some none)\/ ∃j v e,bH b.data.toList m=some v/\Instr.findNow .string (.string b) es i=some (some (i+j,e.val))/\es[j]? =some e/\m[j]? =some (b.data.toList,v)/\R v e.val/\e.key= .string b /\
  ∀I,cy b.data.toList I m=m.set j (b.data.toList,I):=by
 intro m;induction m with
 |nil=>intro es i J _;obtain rfl:es=[]:=List.eq_nil_of_length_eq_zero J;exact .inl ⟨rfl,rfl⟩
 |cons p m ih =>
  obtain⟨k,v⟩:=p;intro es i J h;cases es with
  |nil=>simp at J
  |cons e es =>
   obtain⟨K,he,hk,hv⟩:=h 0 k v rfl;obtain rfl:e=K :=by simpa using he
   obtain⟨c,D,V⟩:=hk;by_cases G:b.data.toList=k
   .have H:b=c:=by
     have:b.data=c.data:=by rw[<- Array.toList_inj];rw[G,V]
     cases b;cases c;simp_all
    subst H;refine .inr ⟨0,v,e,by simp[bH,G],?_,rfl,by simp[G],hv,D,λI =>by simp[cy,G]⟩;have U:(b==b)=true:=(MapKept.bytes_beq b b).2 rfl;simp[Instr.findNow,D,Instr.sameNow,U]
   .have H:(b==c)=false:=by
     rw[<- Bool.not_eq_true];intro hh;have:b=c:=(MapKept.bytes_beq b c).1 hh;exact G (by rw[this];exact V)
    have W:∀r,Instr.findNow .string (.string b) (e::es) i=r ↔ Instr.findNow .string (.string b) es (i+1)=r:=λr=>by
     simp[Instr.findNow,D,Instr.sameNow,H]
    rcases ih es (i+1) (by simpa using J) (λj k v hj=>h (j+1) k v hj)with ⟨N,T⟩|⟨j,I,K,N,T,X,Y,Z,g6,g7⟩
    .exact .inl ⟨by simp[bH,G,N],(W _).2 T⟩
    .exact .inr ⟨j+1,I,K,by simp[bH,G,N],(W _).2<|by rw[T,show i+1+j=i+(j+1) by omega],by simpa using X,by simpa using Y,Z,g6,λkN =>by simp[cy,G,g7]⟩
def Ap{w:World}{O L:Nat->Prop}{σ:Nat->Value}(U:bC cx){t:TypeId}{i:TI}(W:cx.ty t=some i){z:AV}(G:yu i=some z):∃u,(zeroValue t).run cx.P w= .ok u w/\aC w O L σ z u:=by
 obtain⟨T,K,H,Y,i2,i3,i4,i5,Z,i7,i8,N,D⟩:=U _ _ W;refine⟨H,by simp[zeroValue,typeInfo,Y,Z],?_⟩;unfold yu at G;split at G
 .rename_i I;rw[I]at D;obtain⟨_,vs,rfl⟩:=D;cases G;exact .agg _ _ i7 λj c X=>(iK<|N j c X).2
 .rename_i I;rw[I]at D;have V:H.cells= #[H]:=by cases H<;>first|rfl|cases D
  split at G
  .rename_i c J;cases G;have:=(iK (w:=w) (O:=O) (L:=L) (σ:=σ)<|N 0 _<|by rw[J];rfl).2;rw[V]at this;exact this
  .cases G
def KE(I:bC cx){J:TypeId}{x:D}(h:IF cx J x=true):∃j,cx.P.underlying J=some j/\tx j x/\x.gP=true:=by
 cases x<;>simp only[IF]at h<;>first|(cases h;done)|skip
 .split at h
  .rename_i k n sz K U zero T
   have h:=of_decide_eq_true h;subst h;obtain⟨_,j,_,_,H,G,_⟩:=I _ _ T;exact⟨j,H,ql G,rfl⟩
  .cases h
 .obtain⟨V,h1,N⟩:=ln h;obtain⟨_,j,_,_,H,G,_⟩:=I _ _ h1;rw[N]at G;exact⟨j,H,ga G,rfl⟩
def DP(hT : bC cx){ok : Bool}{r : Option D}{z : AV}(h : match r with
      |some v=>(match ok with|true=>k (.tuple [v.gT,.d<|.bool true]) []|false=>k v.gT [])
      |none=>(match ok with|true=>k (.tuple [z,.d<|.bool false]) []|false=>k z [])) {o:Oper} {t:TypeId} {x i:Operand} (V:∀ρ,execOp ρ o=(do pure (.value<|<- Instr.lookup t (ρ x) (ρ i) ok):Sem Next)) {sz hI :Nat} {kt et:TypeId} {zero:List AV} (ht:cx.ty t=some ⟨sz,hI,.map kt et,zero⟩) {ei:TI} (hR:cx.ty et=some ei) (hz:yu ei=some z)
 {m:List<|List D×D} {kc:List D} {eq:List D->Option Bool} (K:mc eq m=some r)
 (Y:∀(E:Env) st' σ a w,st.le st' ->bS cx E st' σ a w-> ∃g es I,a.eval x= .map (some g)/\w.heap[g]? =some (.map es I)/\wU (Rep w<|Own E.O (live st'.heap) σ) m es I)
 (X:∀(E:Env) st' σ a w,st.le st' ->bS cx E st' σ a w->oK cx.P kt kc eq (a.eval i)):∃v bs,de cx o st v bs/\k v bs:=by
 have Z:∀{w:World} {O L:Nat->Prop} {σ:Nat->Value} {v:AV} {u:Value} {q:Bool},aC w O L σ v u->aC w O L σ (.tuple [v,.d<|.bool q]) (.tuple #[u,.bool q]):=λh=>by
  refine .tuple _ _ rfl λj c W=>?_
  rcases j with _|_|j
  .cases W;exact h
  .cases W;exact .gy _
  .simp at W
 have G : ∀ (E : Env) st' σ a w, st.le st' -> bS cx E st' σ a w -> ∃ v, aC w E.O (live st'.heap) σ (match r with | some v => v.gT | none => z) v /\
     (Instr.lookup t (a.eval x) (a.eval i) ok).run cx.P w= .ok (if ok then .tuple #[v,.bool r.isSome]else v) w:=by
  intro E st' σ a w H J;obtain⟨_,_,_,_,t2,t3,_⟩:=hT _ _ ht;have t3:=kK t3;subst t3;obtain⟨g,es,I,e1,e3,⟨e4,_⟩,e5⟩:=Y E st' σ a w H J;have hk:=X E st' σ a w H J;have N:=hk.chk es.isEmpty w;have T:(getObj g).run cx.P w= .ok (.map es I) w:=by simp[getObj,Sem.run,e3]
  rw[e1];rcases hk.find w _ m es.toList r (by simpa using e4) (λj k v W=>by
   obtain⟨e,V,q⟩:=e5 j k v W;exact⟨e,by rw[bE];exact V,q⟩) K with ⟨rfl,g2⟩|⟨j,k',v,e,rfl,_,_,g2,g3,_⟩
  .obtain⟨zu,hP,hG⟩:=Ap (w:=w) (O:=E.O) (L:=live st'.heap) (σ:=σ) hT hR hz;exact⟨zu,hG,by simp[Instr.lookup,run_underlying t2,T,N,g2,hP]⟩
  .exact⟨e.val,pB g3,by simp[Instr.lookup,run_underlying t2,T,N,g2]⟩
 cases r with
 |some v =>
  cases ok with
  |true=>exact⟨_,[],dg _ V λE st' σ a w H J=>by obtain⟨u,U,K⟩:=G E st' σ a w H J;exact⟨_,K,Z U⟩,h⟩
  |false=>exact⟨_,[],dg _ V λE st' σ a w H J=>by obtain⟨u,U,K⟩:=G E st' σ a w H J;exact⟨_,K,U⟩,h⟩
 |none =>
  cases ok with
  |true=>exact⟨_,[],dg _ V λE st' σ a w H J=>by obtain⟨u,U,K⟩:=G E st' σ a w H J;exact⟨_,K,Z U⟩,h⟩
  |false=>exact⟨_,[],dg _ V λE st' σ a w H J=>by obtain⟨u,U,K⟩:=G E st' σ a w H J;exact⟨_,K,U⟩,h⟩
def Uy(hT:bC cx){o:Oper}{t:TypeId}{x i:Operand}{ok:Bool}(ho:o.op= .lookup t x i ok)(h:jK cx st t (st.ev cx x) (st.ev cx i) ok k):∃v bs,de cx o st v bs/\k v bs:=by
 have Y:∀ρ,execOp ρ o=(do pure (.value<|<- Instr.lookup t (ρ x) (ρ i) ok):Sem Next):=λρ=>by simp only[execOp,ho]
 have kf:∀{w:World} {O L:Nat->Prop} {σ:Nat->Value} {v:AV} {u:Value} {q:Bool},aC w O L σ v u->aC w O L σ (.tuple [v,.d<|.bool q]) (.tuple #[u,.bool q]):=λh=>by
  refine .tuple _ _ rfl λj c X=>?_
  rcases j with _|_|j
  .cases X;exact h
  .cases X;exact .gy _
  .simp at X
 unfold jK at h;split at h
 .rename_i m N;have hM:∀(E:Env) st' σ a w,st.le st' ->bS cx E st' σ a w-> ∃g es G,a.eval x= .map (some g)/\w.heap[g]? =some (.map es G)/\wU (Rep w<|Own E.O (live st'.heap) σ) m es G:=by
   intro E st' σ a w D K;have I:=K.ev D x;unfold mapOf at N;split at N
   .rename_i s hx;rw[hx]at I;split at N
    .rename_i m' hf;cases N;obtain⟨g,es,G,e1,e2,e3,e4⟩:=K.holds.blk s _<|D.heap s _ hf;generalize a.eval x=u at I;cases I with|omap _ hL=>exact⟨g,es,G,e1,e3,e4⟩
    .cases N
   .rename_i m' hx;cases N;rw[hx]at I;generalize a.eval x=u at I;cases I with|d _ _ I =>
     obtain⟨b,G,es,rfl,_,_,h,hm⟩:=I.Ze;exact⟨b,es,G,rfl,h,hm⟩
   .cases N
  unfold ue at h;split at h
  .rename_i cs sz hI kt et zero hi ht
   split at h
   .rename_i kc ks ei kx kA W;split at h
    .rename_i z hz hJ;obtain⟨r,V,h⟩:=h;have heq:=cx.WC kt ks kA;rw[Cz]at V;refine DP hT h Y ht W hz V (kc:=kc) (λE st' σ a w D K=>hM E st' σ a w D K) λE st' σ a w D K=>oK.struct heq hJ ?_;have J:=K.ev D i;rw[hi]at J;generalize a.eval i=u at J;cases J with|agg _ vs hl hh =>
      obtain⟨l1,l2⟩:=cF kx;obtain⟨f1,f2⟩:=zl hJ;refine .inr ⟨vs,rfl,by rw[hl,l1],λj d X=>?_⟩;obtain⟨c,hc,hd⟩:=l2 j d X;exact pP (jE hd<|hh j c hc)<|f2 d<|aw X
    .exact h.elim
   .exact h.elim
  .rename_i x0 sz hI kt et zero hi ht
   split at h
   .rename_i ei kB W;split at h
    .rename_i z hz;obtain⟨r,V,h⟩:=h;rw[CI]at V;obtain⟨desc,kn,ko,kp⟩:=KE hT kB;refine DP hT h Y ht W hz V (kc:=[.tuple [x0]]) (λE st' σ a w D K=>hM E st' σ a w D K) λE st' σ a w D K=>oK.flat kn ko ?_;have J:=K.ev D i;rw[hi]at J;generalize a.eval i=u at J;cases J with|d _ _ J=>exact pP J kp
    .exact h.elim
   .exact h.elim
  .exact h.elim
 split at h
 .rename_i s b sz hI kt et zero hx hi ht
  split at h
  .rename_i m ei hf Z W;split at h
   .rename_i z hz;obtain⟨ki,hU,hV⟩:=ln Z
    have H : ∀ (E : Env) st' σ a w, st.le st' -> bS cx E st' σ a w -> ∃ v, aC w E.O (live st'.heap) σ (match bH b m with | some v => v.gT | none => z) v /\
        (Instr.lookup t (a.eval x) (a.eval i) ok).run cx.P w= .ok (if ok then .tuple #[v,.bool (bH b m).isSome]else v) w:=by
     intro E st' σ a w D K;obtain⟨_,_,_,_,t2,t3,_⟩:=hT _ _ ht;have t3:=kK t3;subst t3;obtain⟨_,_,_,_,k2,k3,_⟩:=hT _ _ hU;rw[hV]at k3;obtain rfl:=ga k3;have I:=K.ev D x;rw[hx]at I;have J:=K.ev D i;rw[hi]at J;obtain⟨bb,hQ,rfl⟩:=J.str;obtain⟨g,es,G,e1,e2,e3,⟨e4,_⟩,e5⟩:=K.holds.blk s _<|D.heap s _ hf;generalize a.eval x=u at I;cases I with|omap _ hL =>
      rw[e1,hQ];have T:(Instr.checkKey es.isEmpty 10000 kt<|.string bb).run cx.P w= .ok () w:=MapKept.run_checkKey (n:=9999) k2 (by simp[MapKept.IsKey]) _;have U:(getObj g).run cx.P w= .ok (.map es G) w:=by simp[getObj,Sem.run,e3]
      rcases EE (w:=w) (O:=E.O) (L:=live st'.heap) (σ:=σ) bb m es.toList 0 (by simpa using e4) (λj k v X=>by
       obtain⟨e,Y,r⟩:=e5 j k v X;exact⟨e,by rw[bE];exact Y,r⟩)with ⟨g1,g2⟩|⟨j,v,e,g1,g2,g3,g4,g5,g6,_⟩
      .obtain⟨zu,hP,hG⟩:=Ap (w:=w) (O:=E.O) (L:=live st'.heap) (σ:=σ) hT W hz;refine⟨zu,by rw[g1];exact hG,?_⟩;rw[g1];simp[Instr.lookup,run_underlying t2,U,T,Instr.findKey,run_underlying k2,g2,hP]
      .refine⟨e.val,by rw[g1];exact pB g5,?_⟩;rw[g1];simp[Instr.lookup,run_underlying t2,U,T,Instr.findKey,run_underlying k2,g2]
    have kf:∀{w:World} {O L:Nat->Prop} {σ:Nat->Value} {v:AV} {u:Value} {q:Bool},aC w O L σ v u->aC w O L σ (.tuple [v,.d<|.bool q]) (.tuple #[u,.bool q]):=λh=>by
     refine .tuple _ _ rfl λj c X=>?_
     rcases j with _|_|j
     .cases X;exact h
     .cases X;exact .gy _
     .simp at X
    split at h
    .rename_i v hv;rw[hv]at H;cases ok with
     |true=>exact⟨_,[],dg _ Y λE st' σ a w D K=>by obtain⟨u,hu,V⟩:=H E st' σ a w D K;exact⟨_,V,kf hu⟩,h⟩
     |false=>exact⟨_,[],dg _ Y λE st' σ a w D K=>by obtain⟨u,hu,V⟩:=H E st' σ a w D K;exact⟨_,V,hu⟩,h⟩
    .rename_i hv;rw[hv]at H;cases ok with
     |true=>exact⟨_,[],dg _ Y λE st' σ a w D K=>by obtain⟨u,hu,V⟩:=H E st' σ a w D K;exact⟨_,V,kf hu⟩,h⟩
     |false=>exact⟨_,[],dg _ Y λE st' σ a w D K=>by obtain⟨u,hu,V⟩:=H E st' σ a w D K;exact⟨_,V,hu⟩,h⟩
   .exact h.elim
  .rename_i m ei hf Z W;split at h
   .rename_i z hz;obtain⟨r,V,h⟩:=h;obtain⟨ki,hU,hV⟩:=ln Z;refine⟨_,[],dg _ Y λE st' σ a w D K=>?_,h⟩;obtain⟨_,_,_,_,t2,t3,_⟩:=hT _ _ ht;have t3:=kK t3;subst t3;obtain⟨_,_,_,_,k2,k3,_⟩:=hT _ _ hU;rw[hV]at k3;obtain rfl:=ga k3;have I:=K.ev D x;rw[hx]at I;have J:=K.ev D i;rw[hi]at J;obtain⟨bb,hQ,rfl⟩:=J.str;obtain⟨g,es,G,e1,e2,e3,⟨e4,_⟩,e5⟩:=K.holds.blk s _<|D.heap s _ hf;generalize a.eval x=u at I;cases I with|omap _ hL =>
     rw[e1,hQ];have T:(Instr.checkKey es.isEmpty 10000 kt<|.string bb).run cx.P w= .ok () w:=MapKept.run_checkKey (n:=9999) k2 (by simp[MapKept.IsKey]) _;have U:(getObj g).run cx.P w= .ok (.map es G) w:=by simp[getObj,Sem.run,e3]
     rcases CV (R:=aC w E.O (live st'.heap) σ) bb m es.toList 0 (by simpa using e4) (λj k v X=>by
      obtain⟨e,Y,r⟩:=e5 j k v X;exact⟨e,by rw[bE];exact Y,r⟩)with ⟨g1,g2⟩|⟨j,v,e,g1,g2,g3,g4,g5,g6,_⟩
     .obtain⟨zu,hP,hG⟩:=Ap (w:=w) (O:=E.O) (L:=live st'.heap) (σ:=σ) hT W hz;refine⟨zu,?_,by rw[<- V,g1];exact hG⟩;simp[Instr.lookup,run_underlying t2,U,T,Instr.findKey,run_underlying k2,g2,hP]
     .refine⟨e.val,?_,by rw[<- V,g1];exact g5⟩;simp[Instr.lookup,run_underlying t2,U,T,Instr.findKey,run_underlying k2,g2]
   .exact h.elim
  .exact h.elim
 .exact h.elim
def zi{size:Nat}:∀(us:List Value) (i:Nat) (cells:Array Value),(∀u∈us,u.cells.size=size)->(i+us.length)*size<=cells.size ->
 ∃vs,Instr.fill (λi=>some (i*size,size)) cells ((us.zipIdx i).map λp=>(p.2,p.1))=some vs/\vs.size=cells.size /\
  (∀q,q<i*size->vs.getD q Go.undef=cells.getD q Go.undef)/\ ∀(r:Nat) u,us[r]? =some u-> ∀j,j<size->vs.getD ((i+r)*size+j) Go.undef=u.cells.getD j Go.undef:=by
 intro us;induction us with
 |nil=>intro i cells _ _;exact⟨cells,rfl,rfl,λ_ _=>rfl,λr u h=>by simp at h⟩
 |cons u t W =>
  intro i cells K U;have H:=K u (by simp);have e1:(i+(u::t).length)*size=i*size+size+t.length*size:=by simp[Nat.add_mul,Nat.add_comm];omega
  have D:=λq=>GL u.cells.toList cells (i*size) 0 q (by simp only[Array.length_toList,H];have:=Nat.zero_le<|t.length*size;omega)
  obtain⟨vs,X,Y,N,Z⟩:=W (i+1) (u.cells.zipIdx.foldl (λcs (c,j)=>cs.setIfInBounds (i*size+j) c) cells) (λx V=>K x<|by simp[V]) (by
   rw[<- Array.foldl_toList,Array.toList_zipIdx,(D 0).1];have:(i+1+t.length)*size=(i+(u::t).length)*size:=by simp;congr 1;omega
   omega)
  have J:∀q,(u.cells.zipIdx.foldl (λcs (c,j)=>cs.setIfInBounds (i*size+j) c) cells).getD q Go.undef=if i*size+0<=q/\q<i*size+0+u.cells.toList.length then u.cells.toList.getD (q-(i*size+0)) Go.undef else cells.getD q Go.undef:=λq=>by
   rw[<- (D q).2, <- Array.foldl_toList,Array.toList_zipIdx]
  have I:(u.cells.zipIdx.foldl (λcs (c,j)=>cs.setIfInBounds (i*size+j) c) cells).size=cells.size:=by
   rw[<- (D 0).1, <- Array.foldl_toList,Array.toList_zipIdx]
  refine⟨vs,?_,Y.trans I,λq hq=>?_,λr x G j T=>?_⟩
  .simp only[List.zipIdx_cons,List.map_cons,Instr.fill];rw[if_neg<|by simp[H];omega];exact X
  .rw[N q<|by rw[Nat.add_mul];omega,J,if_neg<|by simp;omega]
  .cases r with
   |zero =>
    simp at G;subst G;rw[Nat.add_zero,N _<|by rw[Nat.add_mul];omega,J,if_pos<|by simp[H];omega];simp
   |succ r =>
    have:=Z r x (by simpa using G) j T;rw[show i+(r+1)=i+1+r by omega];exact this
def bS.abB{E:Env}{σ:Nat->Value}{a:Act}{w:World}(h:bS cx E st σ a w)(b:Nat)(j:Own E.O (live st.heap) σ b):b<w.heap.size:=by
 rcases j with j|⟨s,hs,e⟩
 .rcases Nat.lt_or_ge b E.w0.heap.size with hl|hg
  .exact Nat.lt_of_lt_of_le hl h.frame.size
  .exact absurd (h.new b hg)<|h.apart b j
 .exact(h.holds.home hs e).2
def Lk{E:Env}{st' :St}{σ:Nat->Value}{a:Act}{w:World}(T:st.le st')(V:bS cx E st' σ a w){size:Nat}:∀(G:List<|Nat×Operand) (i:Nat) (rows:List<|List D),sZ st cx size i G=some rows ->
 rows.length=G.length/\(∀r∈rows,r.length=size/\ ∀x∈r,x.one=true)/\(G.map λp=>(p.1,a.eval p.2))=((G.map λp=>a.eval p.2).zipIdx i).map (λp=>(p.2,p.1)) /\
 (∀u∈G.map (λp=>a.eval p.2),u.cells.size=size)/\ ∀(r:Nat) row,rows[r]? =some row-> ∃u,(G.map λp=>a.eval p.2)[r]? =some u/\ ∀j d,row[j]? =some d->Rep w (Own E.O (live st'.heap) σ) d (u.cells.getD j Go.undef):=by
 intro G;induction G with
 |nil=>intro i rows h;cases h;exact⟨rfl,λr h=>by simp at h,rfl,λu h=>by simp at h,λr row h=>by simp at h⟩
 |cons p t ih =>
  obtain⟨q,x⟩:=p;intro i rows h;simp only[sZ]at h;split at h
  .rename_i hq;obtain rfl:i=q:=bg hq;split at h
   .rename_i cs K;split at h
    .rename_i ds N;split at h
     .rename_i rs I W U;cases h;have I:ds.length=size:=bg I;obtain⟨k1,k2⟩:=kZ K V.one<|V.ev T x;obtain⟨l1,l2⟩:=cF N;obtain⟨i1,i2,i3,i4,i5⟩:=ih (i+1) rs U;refine⟨by simp[i1],λr H=>?_,by simp[i3],λu J=>?_,λr row H=>?_⟩
      .rcases List.mem_cons.1 H with rfl|H
       .exact⟨I,λy hy=>aG.1 W y hy⟩
       .exact i2 r H
      .simp only[List.map_cons,List.mem_cons]at J;rcases J with rfl|J
       .rw[k1, <- l1,I]
       .exact i4 u J
      .cases r with
       |zero =>
        simp at H;subst H;refine⟨a.eval x,rfl,λj d Z=>?_⟩;obtain⟨c,X,Y⟩:=l2 j d Z;exact rS Y<|k2 j c X
       |succ r=>simpa using i5 r row (by simpa using H)
     .cases h
    .cases h
   .cases h
  .cases h
def XY{E:Env}{st' :St}{σ:Nat->Value}{a:Act}{w:World}(T:st.le st')(V:bS cx E st' σ a w){size:Nat}:∀(D:List<|Nat×Operand) (i:Nat) (rows:List<|List AV),tc st cx size i D=some rows ->
 rows.length=D.length/\(∀r∈rows,r.length=size/\ ∀x∈r,x.one=true)/\(D.map λp=>(p.1,a.eval p.2))=((D.map λp=>a.eval p.2).zipIdx i).map (λp=>(p.2,p.1)) /\
 (∀u∈D.map (λp=>a.eval p.2),u.cells.size=size)/\ ∀(r:Nat) row,rows[r]? =some row-> ∃u,(D.map λp=>a.eval p.2)[r]? =some u/\ ∀j d,row[j]? =some d->aC w E.O (live st'.heap) σ d (u.cells.getD j Go.undef):=by
 intro D;induction D with
 |nil=>intro i rows h;cases h;exact⟨rfl,λr h=>by simp at h,rfl,λu h=>by simp at h,λr row h=>by simp at h⟩
 |cons p W ih =>
  obtain⟨j,x⟩:=p;intro i rows h;simp only[tc]at h;split at h
  .rename_i N;obtain rfl:i=j:=bg N;split at h
   .rename_i X H;split at h
    .rename_i cs K;obtain rfl:=uj K;split at h
     .rename_i rs I Y U;cases h;have I:cs.length=size:=bg I;obtain⟨k1,k2⟩:=kZ H V.one<|V.ev T x;obtain⟨i1,i2,i3,i4,i5⟩:=ih (i+1) rs U;refine⟨by simp[i1],λr G=>?_,by simp[i3],λu J=>?_,λr row G=>?_⟩
      .rcases List.mem_cons.1 G with rfl|G
       .exact⟨I,λy hy=>aG.1 Y y hy⟩
       .exact i2 r G
      .simp only[List.map_cons,List.mem_cons]at J;rcases J with rfl|J
       .rw[k1,I]
       .exact i4 u J
      .cases r with
       |zero =>
        simp at G;subst G;exact⟨a.eval x,rfl,λj d Z=>k2 j d Z⟩
       |succ r=>simpa using i5 r row (by simpa using G)
     .cases h
    .cases h
   .cases h
  .cases h
def Im(hT:bC cx){o:Oper}{t:TypeId}{len:Nat}{D:Array<|Nat×Operand}(ho:o.op= .buildSlice t len D)(h:opK cx o.dst o.type st (.buildSlice t len D) k):∃v bs,de cx o st v bs/\k v bs:=by
 simp only[opK]at h;split at h
 .rename_i d e G hd hE;split at h
  .rename_i rows N;split at h
   .rename_i Z b2 b3 b4;have Z:rows.length=len:=bg Z;have b2:len*G.size<=16777216:=bA b2;have b3:1<=G.size:=bA b3;obtain⟨ti,ht,hD,T⟩:=cE hE;refine⟨_,_,de.new (by rw[ho];rfl) (by assumption) λE st' σ a w hle hs=>?_,h⟩;obtain⟨_,_,_,_,t2,t3,_⟩:=hT _ _ ht;rw[hD]at t3;obtain rfl:=cd t3;obtain⟨info,desc,zv,i1,i2,i3,i4,i5,i6,i7,i8,i9,i10⟩:=hT _ _ T;obtain⟨_,r2⟩:=dU (w:=w) hT T;obtain⟨p1,p2,p3,p4,p5⟩:=Lk hle hs D.toList 0 rows N;have V:D.toList.length=len:=by omega
    obtain⟨W,J⟩:∃W:Array Value,W=if len*G.size=0 then #[]else zv.cells:=⟨_,rfl⟩
    obtain⟨vs,v1,v2,_,v4⟩:=zi (size:=G.size) (D.toList.map λp=>a.eval p.2) 0 ((Array.range<|len*G.size).map (W[· % W.size]!)) p4 (by simp only[au,Nat.zero_add,V,Array.size_map,Array.size_range];exact Nat.le_refl _);refine⟨w.alloc<|.cells vs e,.slice (some ⟨w.heap.size,0,none⟩) len len,.slice (some ⟨w.heap.size,0,none⟩) len len,?_,lR _ _,λg hg=>by cases hg;exact Nat.le_refl _,λσ' e1 hF hk ka hl=>⟨?_,?_⟩⟩
    .have hN:(D.map λ(x:Nat×Operand)=>(x.1,a.eval x.2)).toList=((D.toList.map λp=>a.eval p.2).zipIdx 0).map (λp=>(p.2,p.1)):=by rw[<- p3];simp
     have hG:(if len*G.size=0 then pure #[]else do pure (<- zeroValue e).cells:Sem<|Array Value).run cx.P w= .ok W w:=by
      rw[J];split<;>simp[zeroValue,typeInfo,i1,i6]
     have hX:¬(len*G.size>2 ^ 24):=by omega
     have H :¬16777216<len*G.size:=by omega
     simp only[execOp,ho,Instr.buildSlice,hN];by_cases I:len*G.size=0
     .rw[if_pos I]at J;subst J;have U:∀f:Nat->Value,(Array.range<|len*G.size).map f= #[]:=λf=>by rw[I];simp[Array.range]
      have K:∀f:Nat->Value,(Array.range 0).map f= #[]:=λf=>by simp[Array.range]
      rw[U]at v1;simp[run_underlying t2,r2,H,I,K,v1,newRow,newObj,Sem.run]
     .rw[if_neg I]at J;subst J;simp[run_underlying t2,r2,H,I,v1,newRow,newObj,Sem.run,zeroValue,typeInfo,i1,i6]
    .refine Lj (fl:=inL (d+100000) cx.bld) ka (λ_=>⟨_,rfl⟩) hk e1 (λb hb=>by cases hb;exact hF _<|Nat.le_refl _) Z (xs:=vs.toList) ⟨?_,.inr ⟨w.heap.size,len,vs,rfl,Nat.zero_le _,heap_alloc_new w _,Nat.le_refl _,?_,?_,?_⟩⟩ b3 p2 λi r j x X hj=>?_
     .simp[v2]
     .simp only[maxLen];have:len*1<=len*G.size:=Nat.mul_le_mul_left _ b3;omega
     .simp[v2]
     .rw[List.take_of_length_le];simp[v2]
     .obtain⟨u,hu,hr⟩:=p5 i r X;have Y :j<G.size:=by have:=(aA.1 hj).1;rw[(p2 r<|aw X).1]at this;exact this
      have hK:i<len:=by have:=(aA.1 X).1;omega
      have hq:i*G.size+j<vs.size:=by
       have:(i+1)*G.size<=len*G.size:=Nat.mul_le_mul_right _ hK;rw[Nat.add_mul]at this;simp[v2];omega
      have:=v4 i u hu j Y;rw[Nat.zero_add]at this;refine⟨vs[i*G.size+j],by simp[hq],?_⟩;rw[show vs[i*G.size+j]=u.cells.getD j Go.undef by rw[<- this];simp[hq]];exact hr j x hj
    .have:=aC.own (w:=w.alloc<|.cells vs e) (O:=E.O) (σ:=σ') d hl;rw[e1]at this;exact this
   .rename_i Z b2 b3 b4;have Z:rows.length=len:=bg Z;have b2:len*G.size<=16777216:=bA b2;have b3:1<=G.size:=bA b3;obtain⟨ti,ht,hD,T⟩:=cE hE;refine⟨_,_,de.Ja (by rw[ho];rfl) λE st' a w Q hle hd hS ⟨σ,hs⟩=>?_,h⟩;obtain⟨_,_,_,_,t2,t3,_⟩:=hT _ _ ht;rw[hD]at t3;obtain rfl:=cd t3;obtain⟨info,desc,zv,i1,i2,i3,i4,i5,i6,i7,i8,i9,i10⟩:=hT _ _ T;obtain⟨_,r2⟩:=dU (w:=w) hT T;obtain⟨p1,p2,p3,p4,p5⟩:=Lk hle hs D.toList 0 rows N;have V:D.toList.length=len:=by omega
    obtain⟨W,J⟩:∃W:Array Value,W=if len*G.size=0 then #[]else zv.cells:=⟨_,rfl⟩
    obtain⟨vs,v1,v2,_,v4⟩:=zi (size:=G.size) (D.toList.map λp=>a.eval p.2) 0 ((Array.range<|len*G.size).map (W[· % W.size]!)) p4 (by simp only[au,Nat.zero_add,V,Array.size_map,Array.size_range];exact Nat.le_refl _);have hZ:(execOp a.eval o).run cx.P w= .ok (.value<|.slice (some ⟨w.heap.size,0,none⟩) len len) (w.alloc<|.cells vs e):=by
     have hN:(D.map λ(x:Nat×Operand)=>(x.1,a.eval x.2)).toList=((D.toList.map λp=>a.eval p.2).zipIdx 0).map (λp=>(p.2,p.1)):=by rw[<- p3];simp
     have H :¬16777216<len*G.size:=by omega
     simp only[execOp,ho,Instr.buildSlice,hN];by_cases I:len*G.size=0
     .rw[if_pos I]at J;subst J;have U:∀f:Nat->Value,(Array.range<|len*G.size).map f= #[]:=λf=>by rw[I];simp[Array.range]
      have K:∀f:Nat->Value,(Array.range 0).map f= #[]:=λf=>by simp[Array.range]
      rw[U]at v1;simp[run_underlying t2,r2,H,I,K,v1,newRow,newObj,Sem.run]
     .rw[if_neg I]at J;subst J;simp[run_underlying t2,r2,H,I,v1,newRow,newObj,Sem.run,zeroValue,typeInfo,i1,i6]
    simp only[Oper.wp,hZ,Oper.upon];have hC:=lR w<|.cells vs e;have hk:bx w (w.alloc<|.cells vs e) (Own E.O (live st'.heap) σ)<|Own E.O (live st'.heap) σ:=⟨hC.size,λx _ hx=>hC.block x hx,λ_ h _=>h⟩
    refine⟨σ,hs.grow hd (λs _=>rfl) hC (λq0 B hB hl=>by simp[live,find]at hl) (λs b hl=>by simp[live,find]at hl) (λs s' b hl=>by simp[live,find]at hl) (λs b hb=>by simp[find]at hb) ?_⟩;have kE:¬Own E.O (live<|[]++st'.heap) σ w.heap.size:=λhO=>by
     have:=hs.abB _ hO;omega
    refine .d _ _ ?_;refine .slice G.size rows w.heap.size 0 len len (λi j=>vs.getD (i*G.size+j) Go.undef) Z kE (bP.1<|heap_alloc_new w<|.cells vs e).1 (Nat.le_refl _) p2 (λi r j d X hj=>?_) λi r j d X hj=>?_
    .have Y :j<G.size:=by have:=(aA.1 hj).1;rw[(p2 r<|aw X).1]at this;exact this
     have hK:i<len:=by have:=(aA.1 X).1;omega
     have hq:i*G.size+j<vs.size:=by
      have:(i+1)*G.size<=len*G.size:=Nat.mul_le_mul_right _ hK;rw[Nat.add_mul]at this;simp[v2];omega
     have hW:=heap_alloc_new w<|.cells vs e;simp only[World.cell?,hW,Nat.zero_add];simp[hq]
    .obtain⟨u,hu,hr⟩:=p5 i r X;have Y :j<G.size:=by have:=(aA.1 hj).1;rw[(p2 r<|aw X).1]at this;exact this
     have:=v4 i u hu j Y;rw[Nat.zero_add]at this;rw[this];exact(hr j d hj).mono hk
   .exact h.elim
  .split at h
   .rename_i rows N;split at h
    .rename_i Z b2 b3;have Z:rows.length=len:=bg Z;have b2:len*G.size<=16777216:=bA b2;have b3:1<=G.size:=bA b3;obtain⟨ti,ht,hD,T⟩:=cE hE;refine⟨_,_,de.new (by rw[ho];rfl) (by assumption) λE st' σ a w hle hs=>?_,h⟩;obtain⟨_,_,_,_,t2,t3,_⟩:=hT _ _ ht;rw[hD]at t3;obtain rfl:=cd t3;obtain⟨info,desc,zv,i1,i2,i3,i4,i5,i6,i7,i8,i9,i10⟩:=hT _ _ T;obtain⟨_,r2⟩:=dU (w:=w) hT T;obtain⟨p1,p2,p3,p4,p5⟩:=XY hle hs D.toList 0 rows N;have V:D.toList.length=len:=by omega
     obtain⟨W,J⟩:∃W:Array Value,W=if len*G.size=0 then #[]else zv.cells:=⟨_,rfl⟩
     obtain⟨vs,v1,v2,_,v4⟩:=zi (size:=G.size) (D.toList.map λp=>a.eval p.2) 0 ((Array.range<|len*G.size).map (W[· % W.size]!)) p4 (by simp only[au,Nat.zero_add,V,Array.size_map,Array.size_range];exact Nat.le_refl _);refine⟨w.alloc<|.cells vs e,.slice (some ⟨w.heap.size,0,none⟩) len len,.slice (some ⟨w.heap.size,0,none⟩) len len,?_,lR _ _,λg hg=>by cases hg;exact Nat.le_refl _,λσ' e1 hF hk ka hl=>⟨?_,?_⟩⟩
     .have hN:(D.map λ(x:Nat×Operand)=>(x.1,a.eval x.2)).toList=((D.toList.map λp=>a.eval p.2).zipIdx 0).map (λp=>(p.2,p.1)):=by rw[<- p3];simp
      have hG:(if len*G.size=0 then pure #[]else do pure (<- zeroValue e).cells:Sem<|Array Value).run cx.P w= .ok W w:=by
       rw[J];split<;>simp[zeroValue,typeInfo,i1,i6]
      have hX:¬(len*G.size>2 ^ 24):=by omega
      have H :¬16777216<len*G.size:=by omega
      simp only[execOp,ho,Instr.buildSlice,hN];by_cases I:len*G.size=0
      .rw[if_pos I]at J;subst J;have U:∀f:Nat->Value,(Array.range<|len*G.size).map f= #[]:=λf=>by rw[I];simp[Array.range]
       have K:∀f:Nat->Value,(Array.range 0).map f= #[]:=λf=>by simp[Array.range]
       rw[U]at v1;simp[run_underlying t2,r2,H,I,K,v1,newRow,newObj,Sem.run]
      .rw[if_neg I]at J;subst J;simp[run_underlying t2,r2,H,I,v1,newRow,newObj,Sem.run,zeroValue,typeInfo,i1,i6]
     .refine⟨w.heap.size,vs,e,by rw[e1,Z],hF _<|Nat.le_refl _,heap_alloc_new w _,λr hr=>(p2 r hr).1,λi r j x X hj=>?_⟩;obtain⟨u,hu,hr⟩:=p5 i r X;have Y :j<G.size:=by have:=(aA.1 hj).1;rw[(p2 r<|aw X).1]at this;exact this
      have hK:i<len:=by have:=(aA.1 X).1;omega
      have hq:i*G.size+j<vs.size:=by
       have:(i+1)*G.size<=len*G.size:=Nat.mul_le_mul_right _ hK;rw[Nat.add_mul]at this;simp[v2];omega
      have:=v4 i u hu j Y;rw[Nat.zero_add]at this;refine⟨⟨.inl<|(p2 r<|aw X).2 x<|aw hj,hq⟩,?_⟩;rw[this];exact(hr j x hj).mono hk ka
     .have:=aC.own (w:=w.alloc<|.cells vs e) (O:=E.O) (σ:=σ') d hl;rw[e1]at this;exact this
    .exact h.elim
   .exact h.elim
 .exact h.elim
end

