/-
  Merged texts.
-/
import Derived.Test.YtodofogcincleaaGreatDoorQeM
import Derived.MapKept
set_option linter.all false
namespace NQ
open Go Go.RowKit
theorem eD.rep{w:World}{O:Nat->Prop}{d:D}{v:Value}(h:eD d v):Rep w O d v:=by
 cases d <;> simp only[eD]at h
 .subst h;exact .int _ _
 .subst h;exact .bool _
 .obtain⟨b,rfl,hb⟩:=h;exact .str _ b hb
theorem ny{w:World}{O:Nat->Prop}{d:D}{v:Value}(h:Rep w O d v)(hf:d.fG=true):eD d v:=by
 cases h <;> first|rfl|(cases hf;done)|(exact⟨_,rfl,by assumption⟩)
def gZ:List K->List D->Bool
 |[],[]=>true
 | .str::ks,.str _::cs=>gZ ks cs
 | .bool::ks,.bool _::cs=>gZ ks cs
 | .int k::ks,.int k' _::cs=>decide (k=k')&&gZ ks cs
 |_,_=>false
theorem vO:∀{ks:List K} {cs:List D},gZ ks cs=true->cs.length=ks.length/\ ∀d∈cs,d.fG=true
 |[],[],_=>⟨rfl,λd h=>by cases h⟩
 |[],_::_,h=>by cases h
 |k::ks,[],h=>by cases k <;> simp[gZ]at h
 |k::ks,c::cs,h=>by
  have key:gZ ks cs=true->c.fG=true->(c::cs).length=(k::ks).length/\ ∀d∈c::cs,d.fG=true:=λh hc=>by
   obtain⟨h1,h2⟩:=vO h;refine⟨by simp[h1],λd hd=>?_⟩;rcases List.mem_cons.1 hd with rfl|hd
   .exact hc
   .exact h2 d hd
  cases k <;> cases c <;> simp[gZ]at h
  .exact key h.2 rfl
  .exact key h rfl
  .exact key h rfl
def qI(ks:List K)(kc:List D):List (List D×D)->Option (Option D)
 |[]=>some none
 |(k,v)::t=>(match dN ks (kc.map .d) (k.map .d)with|some true=>some (some v)|some false=>qI ks kc t|none=>none)
def xo(ks:List K)(kc:List D)(x:D):List (List D×D)->Option (List (List D×D))
 |[]=>some [(kc,x)]
 |(k,v)::t=>(match dN ks (kc.map .d) (k.map .d)with|some true=>some ((kc,x)::t)|some false=>(xo ks kc x t).map ((k,v):: ·)|none=>none)
def ky(x:D):List D->Option Bool
 |[.tuple [y]]=>(match x,y with
  | .int k a,.int k' b=>(match decide (k=k')with|true=>some (a==b)|false=>none)
  | .str a,.str b=>some (a==b)
  |_,_=>none)
 |_=>none
def qX(x:D):List (List D×D)->Option (Option D)
 |[]=>some none
 |(k,v)::t=>(match ky x k with|some true=>some (some v)|some false=>qX x t|none=>none)
def xG(x v:D):List (List D×D)->Option (List (List D×D))
 |[]=>some [([.tuple [x]],v)]
 |(k,v')::t=>(match ky x k with|some true=>some (([.tuple [x]],v)::t)|some false=>(xG x v t).map ((k,v'):: ·)|none=>none)
def kB(eq:List D->Option Bool):List (List D×D)->Option (Option D)
 |[]=>some none
 |(k,v)::t=>(match eq k with|some true=>some (some v)|some false=>kB eq t|none=>none)
def lp(eq:List D->Option Bool)(kc:List D)(x:D):List (List D×D)->Option (List (List D×D))
 |[]=>some [(kc,x)]
 |(k,v)::t=>(match eq k with|some true=>some ((kc,x)::t)|some false=>(lp eq kc x t).map ((k,v):: ·)|none=>none)
theorem za(ks:List K)(kc:List D):∀m,qI ks kc m=kB (λk=>dN ks (kc.map .d) (k.map .d)) m
 |[]=>rfl
 |(k,v)::t=>by simp only[qI,kB];split <;> first|rfl|exact za ks kc t
theorem BT(ks:List K)(kc:List D)(x:D):∀m,xo ks kc x m=lp (λk=>dN ks (kc.map .d) (k.map .d)) kc x m
 |[]=>rfl
 |(k,v)::t=>by simp only[xo,lp];split <;> first|rfl|(rw[BT ks kc x t])
theorem zm(x:D):∀m,qX x m=kB (ky x) m
 |[]=>rfl
 |(k,v)::t=>by simp only[qX,kB];split <;> first|rfl|exact zm x t
theorem Ci(x v:D):∀m,xG x v m=lp (ky x) [.tuple [x]] v m
 |[]=>rfl
 |(k,v')::t=>by simp only[xG,lp];split <;> first|rfl|(rw[Ci x v t])
theorem rJ{eq:List D->Option Bool}{kc:List D}{x:D}:∀{m:List (List D×D)},kB eq m=some none->lp eq kc x m=some (m++[(kc,x)])
 |[],_=>rfl
 |(k,v)::t,h=>by
  simp only[kB]at h;simp only[lp];split at h
  .cases h
  .rename_i e;simp only[e,rJ h,Option.map_some,List.cons_append]
  .cases h
theorem KR{ks:List K}{kc:List D}{x:D}{m:List (List D×D)}(h:qI ks kc m=some none):xo ks kc x m=some (m++[(kc,x)]):=by
 rw[BT];rw[za]at h;exact rJ h
theorem LF{x v:D}{m:List (List D×D)}(h:qX x m=some none):xG x v m=some (m++[([.tuple [x]],v)]):=by
 rw[Ci];rw[zm]at h;exact rJ h
theorem wo{eq:List D->Option Bool}{kc:List D}{x:D}:∀{m m' :List (List D×D)},lp eq kc x m=some m' -> ∃r,kB eq m=some r
 |[],_,_=>⟨_,rfl⟩
 |(k,v)::t,m',h=>by
  simp only[lp]at h;simp only[kB];split at h
  .exact⟨_,rfl⟩
  .cases hp:lp eq kc x t with
   |none=>rw[hp]at h;cases h
   |some t' =>exact wo hp
  .cases h
section
variable {P:Program} {w:World}
def kj(em:Bool)(n:Nat)(xs:Array Value):List Field->Sem Unit
 |[]=>pure ()
 |f::fs=>if f.name≠ "_" then(do let a <- part f.type xs f.offset;Instr.checkKey em n f.type a;kj em n xs fs)else kj em n xs fs
theorem uZ(em:Bool)(n:Nat){t:TypeId}{fs:Array Field}(xs:Array Value)(ht:P.underlying t=some (.struct fs)):(Instr.checkKey em (n+1) t (.agg xs)).run P w=(kj em n xs fs.toList).run P w:=by
 rw[Instr.checkKey];simp only[Sem.run_bind,run_underlying ht,Result.andThen_ok];rw[<- Array.forIn_toList];generalize fs.toList=l;clear ht;induction l generalizing w with
 |nil=>simp[kj]
 |cons f l ih =>
  simp only[List.forIn_cons,kj,Sem.run_bind,Sem.run_ite];split
  .generalize (part f.type xs f.offset).run P w=r1
   cases r1 with
   |ok a w1 =>
    simp only[Result.andThen_ok];generalize (Instr.checkKey em n f.type a).run P w1=r2;cases r2 with
    |ok b w2 =>
     simp only[Result.andThen_ok,Sem.run_pure];exact ih
    |halt x w2=>simp[Result.andThen]
   |halt x w1=>simp[Result.andThen]
  .simp only[Sem.run_pure,Result.andThen_ok];exact ih
theorem ry{em:Bool}{n:Nat}{xs:Array Value}:∀(l:List Field) (ks:List K) (i:Nat) (cs:List D),l.length=ks.length ->
 (∀(j:Nat) f k,l[j]? =some f->ks[j]? =some k->f.offset=i+j/\f.name≠ "_" /\ ∃desc,P.underlying f.type=some desc/\kindOf desc=k)->gZ ks cs=true ->
 (∀(j:Nat) c,cs[j]? =some c-> ∃u,xs[i+j]? =some u/\eD c u)->(kj em (n+1) xs l).run P w= .ok () w
 |[],_,_,_,_,_,_,_=>by simp[kj]
 |_::_,[],_,_,hl,_,_,_=>by simp at hl
 |f::l,k::ks,i,[],_,_,he,_=>by cases k <;> simp[gZ]at he
 |f::l,k::ks,i,c::cs,hl,hf,he,hx=>by
  obtain⟨ho,hn,desc,hd,hk⟩:=hf 0 f k rfl rfl;obtain⟨u,hu,ru⟩:=hx 0 c rfl;have step:(kindOf desc).isAgg=false->(Instr.checkKey em (n+1) f.type u).run P w= .ok () w->gZ ks cs=true->(kj em (n+1) xs (f::l)).run P w= .ok () w:=λxH hc hE=>by
   have ih:=ry (em:=em) (n:=n) (xs:=xs) l ks (i+1) cs (by simpa using hl) (λj f' k' h1 h2=>by
    obtain⟨a1,a2⟩:=hf (j+1) f' k' h1 h2;exact⟨by omega,a2⟩) hE (λj c h=>by
    obtain⟨u,hu,ru⟩:=hx (j+1) c h;exact⟨u,by rw[<- hu];congr 1;omega,ru⟩)
   have hp:=zi (w:=w) hd xH (xs:=xs) (o:=f.offset) (v:=u) (by rw[ho];exact hu);simp only[kj,if_pos hn,Sem.run_bind,hp,Result.andThen_ok,hc];exact ih
  cases k <;> cases c <;> simp[gZ]at he
  .rename_i k1 k2 m;refine step (by rw[hk];rfl) ?_ he.2;have kD :=hd;rw[nP hk]at kD;obtain rfl:=ru;simp[Instr.checkKey,run_underlying kD]
  .refine step (by rw[hk];rfl) ?_ he;have kD :=hd;rw[ss hk]at kD;obtain rfl:=ru;simp[Instr.checkKey,run_underlying kD]
  .refine step (by rw[hk];rfl) ?_ he;have kD :=hd;rw[ff hk]at kD;obtain⟨b,rfl,_⟩:=ru;simp[Instr.checkKey,run_underlying kD]
theorem CM{cs:List D}{vs:Array Value}(hl:vs.size=cs.length)(h:∀(j:Nat) d,cs[j]? =some d->eD d (vs.getD j Go.undef))(j:Nat)(c:D)(hj:cs[j]? =some c):∃u,vs[0+j]? =some u/\eD c u:=by
 have hD:j<vs.size:=by rw[hl];exact(aB.1 hj).1
 refine⟨vs[j],by rw[Nat.zero_add];exact Array.getElem?_eq_getElem hD,?_⟩;have:=h j c hj;simpa [bM,hD] using this
theorem MX{ks:List K}{d:D}:gZ ks [.tuple [d]]=false:=by
 cases ks with
 |nil=>rfl
 |cons k ks=>cases k <;> rfl
theorem yZ{ks:List K}{kc:List D}(hE:gZ ks kc=true){u:Value}(hu:lG kc u):∃vs:Array Value,u= .agg vs/\vs.size=kc.length/\ ∀(j:Nat) d,kc[j]? =some d->eD d (vs.getD j undef):=by
 rcases hu with ⟨d,rfl,_⟩|h
 .rw[MX]at hE;cases hE
 .exact h
theorem vJ:∀{ks:List K} {cs ds:List D} {b:Bool},gZ ks cs=true->dN ks (cs.map .d) (ds.map .d)=some b->gZ ks ds=true/\(b=true->cs=ds)
 |[],[],[],b,_,h=>⟨rfl,λ_=>rfl⟩
 |[],_::_,_,b,_,h=>by simp[dN]at h
 |[],[],_::_,b,_,h=>by simp[dN]at h
 |k::ks,[],ds,b,_,h=>by cases k <;> simp[dN]at h
 |k::ks,c::cs,[],b,_,h=>by cases k <;> cases c <;> simp[dN]at h
 |k::ks,c::cs,d::ds,b,hf,h=>by
  cases k <;> cases c <;> simp only[gZ,fR,aU,decide_eq_true_eq]at hf
  all_goals cases d <;> simp only[List.map_cons,dN]at h <;> first|(cases h;done)|skip
  .rename_i k1 k2 n k3 n';obtain⟨rfl,hf⟩:=hf;split at h
   .rename_i r e1 e2;obtain⟨h2,h3⟩:=vJ hf e2;have e1:=of_decide_eq_true e1;subst e1;cases h;refine⟨by simp[gZ,h2],λhb=>?_⟩;simp only[aU,beq_iff_eq]at hb;rw[hb.1,h3 hb.2]
   .cases h
  .split at h
   .rename_i r e;obtain⟨h2,h3⟩:=vJ hf e;cases h;refine⟨by simp[gZ,h2],λhb=>?_⟩;simp only[aU,beq_iff_eq]at hb;rw[hb.1,h3 hb.2]
   .cases h
  .split at h
   .rename_i r e;obtain⟨h2,h3⟩:=vJ hf e;cases h;refine⟨by simp[gZ,h2],λhb=>?_⟩;simp only[aU,beq_iff_eq]at hb;rw[hb.1,h3 hb.2]
   .cases h
theorem EJ{kt:TypeId}{ks:List K}(he:yB P kt ks){kc:List D}(hE:gZ ks kc=true){u:Value}(hu:lG kc u)(em:Bool):(Instr.checkKey em 10000 kt u).run P w= .ok () w:=by
 obtain⟨fs,f1,f2,f3,f4,f5⟩:=he;obtain⟨vs,rfl,hl,hv⟩:=yZ hE hu;rw[uZ em 9999 vs f1];exact ry (n:=9998) fs.toList ks 0 kc f4 (λj f k h1 h2=>by rw[Nat.zero_add];exact f5 j f k h1 h2) hE (CM hl hv)
theorem CF{kt:TypeId}{ks:List K}(he:yB P kt ks){kc k:List D}(hE:gZ ks kc=true){u v:Value}(hu:lG kc u)(hv:lG k v){b:Bool}(hb:dN ks (kc.map .d) (k.map .d)=some b):(Op.equal kt u v).run P w= .ok b w:=by
 obtain⟨fs,f1,f2,f3,f4,f5⟩:=he;obtain⟨xs,rfl,xX,hx⟩:=yZ hE hu;obtain⟨ys,rfl,xY,hy⟩:=yZ (vJ hE hb).1 hv;have cell:∀{cs:List D} {xs:Array Value},xs.size=cs.length->(∀(j:Nat) d,cs[j]? =some d->eD d (xs.getD j Go.undef))-> ∀(j:Nat) c,(cs.map AV.d)[j]? =some c-> ∃u,xs[0+j]? =some u/\aG w (λ_=>False) (λ_=>False) (λ_=> .nilFunc) c u:=λ{cs xs} hl h j c hj=>by
  rw[bc]at hj;cases hc:cs[j]? with
  |none=>rw[hc]at hj;cases hj
  |some d =>
   rw[hc]at hj;cases hj;obtain⟨u,hu,hf⟩:=CM hl h j d hc;exact⟨u,hu,.d _ _ hf.rep⟩
 have kn:=vH (P:=P) (w:=w) (n:=9998) fs.toList ks 0 _ _ b f4 (λj f k h1 h2=>by rw[Nat.zero_add];exact f5 j f k h1 h2) hb (cell xX hx) (cell xY hy);have xB:P.fieldsOf kt=fs:=by unfold Program.fieldsOf;rw[f1]
 show(Op.equalIn 10000 kt (.agg xs) (.agg ys)).run P w= .ok b w
 rw[run_equalIn_struct w 9999 kt xs ys (by rw[xB];exact f1) f2,xB];exact kn
structure mG(P:Program)(kt:TypeId)(kc:List D)(eq:List D->Option Bool)(u:Value):Prop where
 key:lG kc u
 chk:∀(em:Bool) (w:World),(Instr.checkKey em 10000 kt u).run P w= .ok () w
 find:∀(w:World) (R:D->Value->Prop) (m:List (List D×D)) (es:List MapEntry) (r:Option D),es.length=m.length ->
  (∀(j:Nat) k v,m[j]? =some (k,v)-> ∃e:MapEntry,es[j]? =some e/\lG k e.key/\R v e.val)->kB eq m=some r ->
  (r=none/\(Instr.findKey kt u es).run P w= .ok none w)\/ ∃j k v e,r=some v/\m[j]? =some (k,v)/\es[j]? =some e/\(Instr.findKey kt u es).run P w= .ok (some (j,e.val)) w/\R v e.val/\Instr.sameBits 10000 e.key u=true/\ ∀x,lp eq kc x m=some (m.set j (kc,x))
theorem vP{d:D}{u v:Value}(hu:eD d u)(hv:eD d v)(n:Nat):Instr.sameBits n u v=true:=by
 cases d <;> simp only[eD]at hu hv
 .subst hu;subst hv;simp[Instr.sameBits]
 .subst hu;subst hv;simp[Instr.sameBits]
 .obtain⟨b,rfl,hb⟩:=hu;obtain⟨c,rfl,hc⟩:=hv;have:b=c:=by
   have:b.data=c.data:=by rw[<- Array.toList_inj];rw[hb,hc]
   cases b;cases c;simp_all
  subst this;simp only[Instr.sameBits];exact(MapKept.bytes_beq b b).2 rfl
theorem Qi{k:List D}{u v:Value}(hu:lG k u)(hv:lG k v):Instr.sameBits 10000 u v=true:=by
 rcases hu with ⟨d,rfl,hu⟩|⟨xs,rfl,lx,hx⟩
 .rcases hv with ⟨d',e,hv⟩|⟨ys,rfl,ly,hy⟩
  .cases e;exact vP hu hv _
  .exact(hy 0 _ rfl).elim
 .rcases hv with ⟨d',rfl,hv⟩|⟨ys,rfl,ly,hy⟩
  .exact(hx 0 _ rfl).elim
  .simp only[Instr.sameBits,aU,beq_iff_eq,aI];refine⟨lx.trans ly.symm,λp hp=>?_⟩;obtain⟨i,hi⟩:=cQ hp;obtain⟨a,b,ha,hb,e⟩:=List.getElem?_zip_eq_some.1 hi |> λh=>(⟨p.1,p.2,h.1,h.2,rfl⟩:∃a b,xs.toList[i]? =some a/\ys.toList[i]? =some b/\(a,b)=p)
   have hD:i<k.length:=by rw[<- lx];have:=(aB.1 ha).1;simpa using this
   have h1:=hx i _ (au hD);have h2:=hy i _ (au hD);have g1:xs.getD i Go.undef=p.1:=by rw[bM, <- bx,ha];exact congrArg Prod.fst e
   have g2:ys.getD i Go.undef=p.2:=by rw[bM, <- bx,hb];exact congrArg Prod.snd e
   rw[g1]at h1;rw[g2]at h2;exact vP h1 h2 _
theorem sX{kt:TypeId}{ks:List K}(he:yB P kt ks){kc:List D}(hE:gZ ks kc=true){u:Value}(hu:lG kc u){R:D->Value->Prop}:∀(m:List (List D×D)) (es:List MapEntry) (i:Nat) (r:Option D),es.length=m.length ->
 (∀(j:Nat) k v,m[j]? =some (k,v)-> ∃e:MapEntry,es[j]? =some e/\lG k e.key/\R v e.val)->kB (λk=>dN ks (kc.map .d) (k.map .d)) m=some r ->
 (r=none/\(Instr.findAsking kt u es i).run P w= .ok none w)\/ ∃j k v e,r=some v/\m[j]? =some (k,v)/\es[j]? =some e/\(Instr.findAsking kt u es i).run P w= .ok (some (i+j,e.val)) w/\R v e.val/\Instr.sameBits 10000 e.key u=true/\ ∀x,lp (λk=>dN ks (kc.map .d) (k.map .d)) kc x m=some (m.set j (kc,x))
 |[],es,i,r,hl,_,hf=>by
  obtain rfl:es=[]:=List.eq_nil_of_length_eq_zero hl;cases hf;exact .inl ⟨rfl,by simp[Instr.findAsking]⟩
 |(k,v)::m,[],i,r,hl,_,_=>by simp at hl
 |(k,v)::m,e::es,i,r,hl,h,hf=>by
  obtain⟨e',xl,hk,hv⟩:=h 0 k v rfl;obtain rfl:e=e' :=by simpa using xl
  simp only[kB]at hf;split at hf
  .rename_i hb;cases hf;have hW:=(vJ hE hb).2 rfl;exact .inr ⟨0,k,v,e,rfl,rfl,rfl,by simp[Instr.findAsking,CF (w:=w) he hE hu hk hb],hv,Qi hk (hW ▸ hu),λx=>by simp[lp,hb]⟩
  .rename_i hb;have kn:(Instr.findAsking kt u (e::es) i).run P w=(Instr.findAsking kt u es (i+1)).run P w:=by simp[Instr.findAsking,CF (w:=w) he hE hu hk hb]
   rw[kn];rcases sX he hE hu m es (i+1) r (by simpa using hl) (λj k v hj=>h (j+1) k v hj) hf with g|⟨j,k',v',e',g1,g2,g3,g4,g5,g6,g7⟩
   .exact .inl g
   .exact .inr ⟨j+1,k',v',e',g1,by simpa using g2,by simpa using g3,by rw[g4,show i+1+j=i+(j+1) by omega],g5,g6,λx=>by simp[lp,hb,g7 x]⟩
  .cases hf
theorem yb{kt:TypeId}{ks:List K}(he:yB P kt ks)(u:Value)(es:List MapEntry):(Instr.findKey kt u es).run P w=(Instr.findAsking kt u es).run P w:=by
 obtain⟨fs,f1,_⟩:=he;cases es with
 |nil=>simp[Instr.findKey,run_underlying f1,Instr.findNow,Instr.findAsking]
 |cons e es=>simp[Instr.findKey,run_underlying f1,Instr.findNow,Instr.sameNow]
theorem mG.struct{kt:TypeId}{ks:List K}(he:yB P kt ks){kc:List D}(hE:gZ ks kc=true){u:Value}(hu:lG kc u):mG P kt kc (λk=>dN ks (kc.map .d) (k.map .d)) u:=by
 refine⟨hu,λem w=>EJ he hE hu em,λw R m es r hl h hf=>?_⟩;rcases sX (w:=w) he hE hu m es 0 r hl h hf with ⟨g1,g2⟩|⟨j,k',v',e',g1,g2,g3,g4,g5,g6,g7⟩
 .exact .inl ⟨g1,by rw[yb he];exact g2⟩
 .exact .inr ⟨j,k',v',e',g1,g2,g3,by rw[yb he,g4,Nat.zero_add],g5,g6,g7⟩
def qn(d:TypeDesc):D->Prop
 | .int k _=>d= .int k
 | .str _=>d= .string
 |_=>False
theorem FM{x y:D}{b:Bool}{desc:TypeDesc}(hd:qn desc x){u v:Value}(hu:eD x u)(hv:eD y v)(h:ky x [.tuple [y]]=some b):Instr.sameNow desc u v=some b/\(b=true->x=y):=by
 cases x <;> simp only[qn]at hd
 .rename_i k n;cases y <;> simp only[ky]at h <;> first|(cases h;done)|skip
  split at h
  .rename_i e;have e:=of_decide_eq_true e;subst e;cases h;simp only[eD]at hu hv;subst hu;subst hv;subst hd;refine⟨by simp[Instr.sameNow],λh=>?_⟩;rw[beq_iff_eq]at h;rw[h]
  .cases h
 .rename_i s;cases y <;> simp only[ky]at h <;> first|(cases h;done)|skip
  rename_i t;cases h;simp only[eD]at hu hv;obtain⟨p,rfl,hp⟩:=hu;obtain⟨q,rfl,hq⟩:=hv;subst hd;refine⟨?_,λh=>by rw[beq_iff_eq]at h;rw[h]⟩;simp only[Instr.sameNow]
  congr 1
  rw[Bool.eq_iff_iff,MapKept.bytes_beq,beq_iff_eq];constructor
  .rintro rfl;rw[<- hp, <- hq]
  .intro e;have:p.data=q.data:=by rw[<- Array.toList_inj];rw[hp,hq,e]
   cases p;cases q;simp_all
theorem yc{x:D}{desc:TypeDesc}(hd:qn desc x){u:Value}(hu:eD x u){R:D->Value->Prop}:∀(m:List (List D×D)) (es:List MapEntry) (i:Nat) (r:Option D),es.length=m.length ->
 (∀(j:Nat) k v,m[j]? =some (k,v)-> ∃e:MapEntry,es[j]? =some e/\lG k e.key/\R v e.val)->kB (ky x) m=some r ->
 (r=none/\Instr.findNow desc u es i=some none)\/ ∃j k v e,r=some v/\m[j]? =some (k,v)/\es[j]? =some e/\Instr.findNow desc u es i=some (some (i+j,e.val))/\R v e.val/\Instr.sameBits 10000 e.key u=true/\ ∀z,lp (ky x) [.tuple [x]] z m=some (m.set j ([.tuple [x]],z))
 |[],es,i,r,hl,_,hf=>by
  obtain rfl:es=[]:=List.eq_nil_of_length_eq_zero hl;cases hf;exact .inl ⟨rfl,rfl⟩
 |(k,v)::m,[],i,r,hl,_,_=>by simp at hl
 |(k,v)::m,e::es,i,r,hl,h,hf=>by
  obtain⟨e',xl,hk,hv⟩:=h 0 k v rfl;obtain rfl:e=e' :=by simpa using xl
  have kE:∀b,ky x k=some b-> ∃y,k=[.tuple [y]]/\eD y e.key:=λb hb=>by
   rcases hk with ⟨y,hy,hf⟩|⟨vs,h1,h2,h3⟩
   .exact⟨y,hy,hf⟩
   .unfold ky at hb;split at hb
    .exact(h3 0 _ rfl).elim
    .cases hb
  simp only[kB]at hf;split at hf
  .rename_i hb;obtain⟨y,rfl,hy⟩:=kE _ hb;obtain⟨s1,s2⟩:=FM hd hu hy hb;obtain rfl:=s2 rfl;cases hf;exact .inr ⟨0,_,v,e,rfl,rfl,rfl,by simp[Instr.findNow,s1],hv,vP hy hu _,λz=>by simp[lp,hb]⟩
  .rename_i hb;obtain⟨y,rfl,hy⟩:=kE _ hb;obtain⟨s1,s2⟩:=FM hd hu hy hb;have kn:Instr.findNow desc u (e::es) i=Instr.findNow desc u es (i+1):=by simp[Instr.findNow,s1]
   rw[kn];rcases yc hd hu m es (i+1) r (by simpa using hl) (λj k v hj=>h (j+1) k v hj) hf with g|⟨j,k',v',e',g1,g2,g3,g4,g5,g6,g7⟩
   .exact .inl g
   .exact .inr ⟨j+1,k',v',e',g1,by simpa using g2,by simpa using g3,by rw[g4,show i+1+j=i+(j+1) by omega],g5,g6,λx=>by simp[lp,hb,g7 x]⟩
  .cases hf
theorem mG.flat{kt:TypeId}{desc:TypeDesc}(ht:P.underlying kt=some desc){x:D}(hd:qn desc x){u:Value}(hu:eD x u):mG P kt [.tuple [x]] (ky x) u:=by
 refine⟨.inl ⟨x,rfl,hu⟩,λem w=>?_,λw R m es r hl h hf=>?_⟩
 .refine MapKept.run_checkKey (n:=9999) ht ?_ _;cases x <;> simp only[qn]at hd
  .simp only[eD]at hu;subst hu;subst hd;rfl
  .simp only[eD]at hu;obtain⟨b,rfl,_⟩:=hu;subst hd;trivial
 .rcases yc hd hu m es 0 r hl h hf with ⟨g1,g2⟩|⟨j,k',v',e',g1,g2,g3,g4,g5,g6,g7⟩
  .exact .inl ⟨g1,MapKept.run_findKey ht g2⟩
  .rw[Nat.zero_add]at g4;exact .inr ⟨j,k',v',e',g1,g2,g3,MapKept.run_findKey ht g4,g5,g6,g7⟩
end
section
variable {P:Program} {w:World} {O L:Nat->Prop} {σ:Nat->Value}
def Fj(cx:Cx)(t:TypeId)(x:AV)(f:Nat):Option AV :=
 match x,cx.ty t with
 | .agg cs,some ⟨_,_,.struct fs,_⟩=>(match fs[f]? with|some (off,ft)=>uQ cx ft (cs.drop off)|none=>none)
 |_,_=>none
theorem QO{cx:Cx}(hT:bD cx){t:TypeId}{cs:List AV}{vs:Array Value}{off:Nat}{r:AV}(h:uQ cx t (cs.drop off)=some r)(hl:vs.size=cs.length)
 (h2:∀j c,cs[j]? =some c->aG w O L σ c (vs.getD j Go.undef)):∃z,(part t vs off).run cx.P w= .ok z w/\aG w O L σ r z:=by
 unfold uQ at h;split at h
 .rename_i i hi;obtain⟨r1,r2⟩:=dH (w:=w) hT hi;split at h
  .rename_i kI;split at h
   .rename_i hle;cases h;have hle:i.size<=cs.length-off:=by simpa using bB hle
    refine⟨.agg (vs.extract off (off+i.size)),by simp[part,r1,kI,r2],.agg _ _ (by simp;omega) λj c hj=>?_⟩;rw[List.getElem?_take]at hj;split at hj
    .rename_i hD;rw[List.getElem?_drop]at hj;have kr :off+j<vs.size:=by have:=(aB.1 hj).1;omega
     have:(vs.extract off (off+i.size)).getD j Go.undef=vs.getD (off+j) Go.undef:=by
      simp[Array.getElem?_extract,hD];rw[if_pos (by omega)]
     rw[this];exact h2 _ c hj
    .cases hj
   .cases h
  .rename_i kI;split at h
   .cases h
   .rename_i c tl hd kN;cases h;have hg:cs[off]? =some r:=by
     have:=congrArg (λl=>l[0]?) kN;simpa [List.getElem?_drop] using this
    have hD:off<vs.size:=by have:=(aB.1 hg).1;omega
    refine⟨vs[off],?_,?_⟩
    .simp[part,r1,kI,hD]
    .have:=h2 off r hg;simpa [hD] using this
   .cases h
 .cases h
theorem Kz{cx:Cx}(hT:bD cx){t:TypeId}{x r:AV}{f:Nat}(h:Fj cx t x f=some r){u:Value}(hx:aG w O L σ x u) :
 ∃z,(Instr.field t u f).run cx.P w= .ok z w/\aG w O L σ r z:=by
 unfold Fj at h;split at h
 .rename_i cs fs _ hs;split at h
  .rename_i off ft hf;obtain⟨info,desc,z,h1,h2,h3,_⟩:=hT t _ hs;obtain⟨g,rfl,rfl⟩:=pF h3;rw[bc]at hf;cases hg:g.toList[f]? with
   |none=>rw[hg]at hf;cases hf
   |some hR =>
    rw[hg]at hf;cases hf;have xn :g[f]? =some hR:=by rw[<- bx];exact hg
    cases hx with|agg _ vs hl hh =>
     obtain⟨z,hz,hr⟩:=QO hT h hl hh;exact⟨z,by simp[Instr.field,run_underlying h2,xn,asAgg,hz],hr⟩
  .cases h
 .cases h
def yP(x:AV)(i:Nat):Option AV :=
 match x with
 | .tuple vs=>(match vs[i]? with|some .undef=>none|some v=>some v|none=>none)
 |_=>none
theorem Fh{x r:AV}{i:Nat}(h:yP x i=some r){u:Value}(hx:aG w O L σ x u):∃z,(Instr.extract u i).run P w= .ok z w/\aG w O L σ r z:=by
 unfold yP at h;split at h
 .rename_i vs;cases hx with|tuple _ us hl hh =>
   have hi:vs[i]? =some r:=by
    split at h
    .cases h
    .rename_i v _ hv;cases h;exact hv
    .cases h
   have hD:i<us.size:=by have:=(aB.1 hi).1;omega
   refine⟨us[i],by simp[Instr.extract,hD],?_⟩;have:=hh i r hi;simpa [hD] using this
 .cases h
def Ko(cx:Cx)(src dst:TypeId)(x:AV):Option AV :=
 match cx.ty src,cx.ty dst,x with
 |some _,some ⟨_,_,.int k,_⟩,.d (.int _ n)=>some (.d (.int k (k.wrap n)))
 |some _,some ⟨_,_,.str,_⟩,.d (.str s)=>some (.d (.str s))
 |_,_,_=>none
theorem ML{cx:Cx}(hT:bD cx){src dst:TypeId}{x r:AV}(h:Ko cx src dst x=some r){u:Value}(hx:aG w O L σ x u) :
 ∃z,(convert src dst u).run cx.P w= .ok z w/\aG w O L σ r z:=by
 unfold Ko at h;split at h
 .rename_i hs hd;obtain⟨_,_,_,_,s2,_⟩:=hT _ _ hs;obtain⟨_,_,_,_,d2,d3,_⟩:=hT _ _ hd;obtain rfl:=nP d3;obtain rfl:=hx.int;cases h;exact⟨_,by simp[convert,run_underlying s2,run_underlying d2,Conv.intToInt],.mkInt _ _⟩
 .rename_i hs hd;obtain⟨_,_,_,_,s2,_⟩:=hT _ _ hs;obtain⟨_,_,_,_,d2,d3,_⟩:=hT _ _ hd;obtain rfl:=ff d3;obtain⟨b,rfl,rfl⟩:=hx.str;cases h;exact⟨_,by simp[convert,run_underlying s2,run_underlying d2],.mkStr _⟩
 .cases h
theorem aG.Ff{sz:Nat}{rows:List (List D)}{v:Value}(h:aG w O L σ (.d (.slice sz rows)) v):∃a cap,v= .slice a rows.length cap/\rows.length<=cap /\
 ∀(i:Nat) r,rows[i]? =some r-> ∃B off,a=some ⟨B,off,none⟩/\aG w O L σ (.d (.ptr r)) (.pointer (some ⟨B,off+i*sz,none⟩)):=by
 cases h with|d _ _ h=>cases h with
 |empty=>exact⟨_,_,rfl,Nat.zero_le _,λi r h=>by simp at h⟩
 |slice _ _ B off n cap us hn hO hB hc hl h1 h2 =>
  subst hn;refine⟨_,cap,rfl,hc,λi r hi=>⟨B,off,rfl,.d _ _ (.ptr r B _ (us i) hO hB (hl r (aD hi)).2 (λj d hj=>h1 i r j d hi hj) (λj d hj=>h2 i r j d hi hj))⟩⟩
theorem yX{cx:Cx}(hT:bD cx){t e:TypeId}{ti ei:TI}(ht:cx.ty t=some ti)(hk:ti.kind= .slice e)(he:cx.ty e=some ei){rows:List (List D)}{u:Value}(hx:aG w O L σ (.d (.slice ei.size rows)) u)
 {k:IntKind} {i:Int} (h0:0<=i) {row:List D} (hI:rows[i.toNat]? =some row):∃z,(Instr.indexAt t u (.int k i)).run cx.P w= .ok z w/\aG w O L σ (.d (.ptr row)) z:=by
 obtain⟨a,cap,rfl,_,hh⟩:=hx.Ff;obtain⟨B,off,rfl,hr⟩:=hh _ _ hI;obtain⟨_,_,_,_,t2,t3,_⟩:=hT _ _ ht;rw[hk]at t3;obtain rfl:=bZ t3;obtain⟨_,r2⟩:=dH (w:=w) hT he;have hD:i<rows.length:=by have:=(aB.1 hI).1;omega
 exact⟨_,by simp[Instr.indexAt,asIntOf,run_underlying t2,h0,hD,r2,de],hr⟩
theorem Dv{cx:Cx}(hT:bD cx){t e:TypeId}{ti ei:TI}(ht:cx.ty t=some ti)(hk:ti.kind= .slice e)(he:cx.ty e=some ei){s n:Nat}{F:Nat->Prop}{xs:List Value}{u:Value}(hx:aG w O L σ (.own s) u)
 {te:TypeId} (hb:w.ownsRow 0 te ei.size (σ s) n xs)
 {k:IntKind} {i:Int} (h0:0<=i) (hi:i.toNat<n):∃z,(Instr.indexAt t u (.int k i)).run cx.P w= .ok z w/\aG w O L σ (.dm s ei.size i.toNat 0) z:=by
 cases hx with|own _ hL =>
  obtain⟨_,_,_,_,t2,t3,_⟩:=hT _ _ ht;rw[hk]at t3;obtain rfl:=bZ t3;obtain⟨_,r2⟩:=dH (w:=w) hT he;rcases hb.2 with ⟨_,rfl⟩|⟨g,cap,cur,e1,_⟩
  .omega
  .have hD:i<n:=by omega
   refine⟨.pointer (some ⟨g,0+(i.toNat*ei.size+0),none⟩),?_,.dm s _ _ _ g n cap 0 hL e1⟩;rw[e1];simp[Instr.indexAt,asIntOf,run_underlying t2,h0,hD,r2,de]
theorem Am{cx:Cx}(hT:bD cx){t e:TypeId}{ti ei:TI}(ht:cx.ty t=some ti){n:Nat}(hk:ti.kind= .array n e)(he:cx.ty e=some ei){x r:AV}{u:Value}(hx:aG w O L σ x u)
 {k:IntKind} {i:Int} (h0:0<=i) (hi:i<n) (ha:Ek x (i.toNat*ei.size)=some r):∃z,(Instr.indexAt t u (.int k i)).run cx.P w= .ok z w/\aG w O L σ r z:=by
 obtain⟨_,_,_,_,t2,t3,_⟩:=hT _ _ ht;rw[hk]at t3;obtain rfl:=wh t3;obtain⟨_,r2⟩:=dH (w:=w) hT he;obtain⟨b,o,rfl,hr⟩:=El ha hx;exact⟨_,by simp[Instr.indexAt,asIntOf,run_underlying t2,h0,hi,r2,de,Instr.sureAddr],hr⟩
theorem Np{cx:Cx}(hT:bD cx){t:TypeId}{ti:TI}(ht:cx.ty t=some ti)(hk:ti.kind= .str){s:List UInt8}{u:Value}(hx:aG w O L σ (.d (.str s)) u)
 {k:IntKind} {i:Int} (h0:0<=i) {c:UInt8} (hc:s[i.toNat]? =some c):∃z,(Instr.index t u (.int k i)).run cx.P w= .ok z w/\aG w O L σ (.d (.int .u8 c.toNat)) z:=by
 obtain⟨_,_,_,_,t2,t3,_⟩:=hT _ _ ht;rw[hk]at t3;obtain rfl:=ff t3;obtain⟨b,rfl,rfl⟩:=hx.str;have hb:b[i.toNat]? =some c:=by
  obtain⟨h,e⟩:=aB.1 hc;have h' :i.toNat<b.size:=by simpa using h
  rw[getElem?_pos b i.toNat h', <- e];rfl
 exact⟨_,by simp[Instr.index,asIntOf,run_underlying t2,h0,hb],.mkInt _ _⟩
end
section
variable {P:Program} {w:World} {O L:Nat->Prop} {σ:Nat->Value}
def bnd(kd:Nat):Option AV->Option Int
 |none=>some kd
 |some (.d (.int _ n))=>some n
 |_=>none
theorem Sl{o:Option AV}{v:Option Value}(ho:∀x,o=some x-> ∃u,v=some u/\aG w O L σ x u)(hn:o=none->v=none){kd:Nat}{i:Int}(h:bnd kd o=some i) :
 (v=none/\i=kd)\/ ∃k,v=some (.int k i):=by
 unfold bnd at h;split at h
 .cases h;exact .inl ⟨hn rfl,rfl⟩
 .rename_i k n;cases h;obtain⟨u,rfl,hu⟩:=ho _ rfl;exact .inr ⟨k,by rw[hu.int]⟩
 .cases h
theorem rV(b:Bool)(len cap:Nat)(hc:len<=cap){lo hi:Option Value}{l h:Int}(hl:(lo=none/\l=(0:Nat))\/ ∃k,lo=some (.int k l))(hh:(hi=none/\h=len)\/ ∃k,hi=some (.int k h))
 (h0:0<=l) (h1:l<=h) (h2:h<=len):(Instr.sliceBounds b len cap lo hi none).run P w= .ok (l.toNat,h.toNat,cap) w:=by
 have h3:h<=cap:=by omega
 have h4:0<=h:=by omega
 have h5:l<=(h.toNat:Int):=by omega
 rcases hl with ⟨rfl,rfl⟩|⟨kl,rfl⟩ <;> rcases hh with ⟨rfl,rfl⟩|⟨kh,rfl⟩
 .simp[Instr.sliceBounds]
 .simp[Instr.sliceBounds,Instr.sliceBound,asIntOf,h4,h3]
 .have h6:l<=(len:Int):=by omega
  simp[Instr.sliceBounds,Instr.sliceBound,asIntOf,h0,h6]
 .simp[Instr.sliceBounds,Instr.sliceBound,asIntOf,h4,h3,h0,h5];intro hm;exfalso;omega
theorem Ss{cx:Cx}(hT:bD cx){t:TypeId}{ti:TI}(ht:cx.ty t=some ti)(hk:ti.kind= .str){s:List UInt8}{u:Value}(hx:aG w O L σ (.d (.str s)) u){lo hi:Option Value}{l h:Int}
 (hl:(lo=none/\l=(0:Nat))\/ ∃k,lo=some (.int k l)) (hh:(hi=none/\h=s.length)\/ ∃k,hi=some (.int k h)) (h0:0<=l) (h1:l<=h) (h2:h<=s.length) :
 ∃z,(Instr.sliceAt t u lo hi none).run cx.P w= .ok z w/\aG w O L σ (.d (.str ((s.drop l.toNat).take (h.toNat-l.toNat)))) z:=by
 obtain⟨_,_,_,_,t2,t3,_⟩:=hT _ _ ht;rw[hk]at t3;obtain rfl:=ff t3;obtain⟨b,rfl,rfl⟩:=hx.str;have hM:b.data.toList.length=b.size:=by simp
 rw[hM]at hh h2;have hs:=rV (P:=cx.P) (w:=w) false b.size b.size (Nat.le_refl _) hl hh h0 h1 h2;refine⟨.string (b.extract l.toNat h.toNat),by simp[Instr.sliceAt,run_underlying t2,Instr.slice,hs],.d _ _ (.str _ _ ?_)⟩;rw[ByteArray.data_extract,Array.toList_extract,List.extract_eq_take_drop]
theorem Kq{cx:Cx}(hT:bD cx){t e:TypeId}{ti ei:TI}(ht:cx.ty t=some ti)(hk:ti.kind= .slice e)(he:cx.ty e=some ei){rows:List (List D)}{u:Value}(hx:aG w O L σ (.d (.slice ei.size rows)) u){lo hi:Option Value}{l h:Int}
 (hl:(lo=none/\l=(0:Nat))\/ ∃k,lo=some (.int k l)) (hh:(hi=none/\h=rows.length)\/ ∃k,hi=some (.int k h)) (h0:0<=l) (h1:l<=h) (h2:h<=rows.length) :
 ∃z,(Instr.sliceAt t u lo hi none).run cx.P w= .ok z w/\aG w O L σ (.d (.slice ei.size ((rows.drop l.toNat).take (h.toNat-l.toNat)))) z:=by
 obtain⟨_,_,_,_,t2,t3,_⟩:=hT _ _ ht;rw[hk]at t3;obtain rfl:=bZ t3;obtain⟨_,r2⟩:=dH (w:=w) hT he;obtain⟨a,cap,rfl,hc,_⟩:=hx.Ff;have hs:=rV (P:=cx.P) (w:=w) true rows.length cap hc hl hh h0 h1 h2;refine⟨.slice (if cap=l.toNat then a else a.map (·.add (l.toNat*ei.size))) (h.toNat-l.toNat) (cap-l.toNat),by simp[Instr.sliceAt,run_underlying t2,Instr.slice,hs,r2],?_⟩;by_cases he:h.toNat-l.toNat=0
 .rw[he,List.take_zero];exact .d _ _ (.empty _ _ _)
 .have xv:cap≠l.toNat:=by omega
  rw[if_neg xv];cases hx with|d _ _ hx=>cases hx with
  |empty=>simp at h2;omega
  |slice _ _ B off n _ us hn hO hB hc xt g1 g2 =>
   rw[show Option.map (λx:Addr=>x.add (l.toNat*ei.size)) (some ⟨B,off,none⟩)=some ⟨B,off+l.toNat*ei.size,none⟩ by simp[de]];have hA:∀(i:Nat) r,((rows.drop l.toNat).take (h.toNat-l.toNat))[i]? =some r->rows[l.toNat+i]? =some r:=λi r hi=>by
    rw[List.getElem?_take]at hi;split at hi
    .rwa [List.getElem?_drop]at hi
    .cases hi
   refine .d _ _ (.slice _ _ B _ _ _ (λi j=>us (l.toNat+i) j) ?_ hO hB ?_ (λr hr=>xt r (List.mem_of_mem_drop (List.mem_of_mem_take hr))) (λi r j d hi hj=>?_) (λi r j d hi hj=>g2 _ r j d (hA i r hi) hj))
   .simp;omega
   .omega
   .have:=g1 _ r j d (hA i r hi) hj;rw[Nat.add_mul]at this;rw[<- this];congr 2;omega
def cellsOf:AV->Option (List AV)
 | .agg cs=>some cs
 | .undef| .tuple _=>none
 | .d x=>(match x.one with|true=>some [.d x]|false=>none)
 |v=>some [v]
theorem jE{x:AV}{cs:List AV}(h:cellsOf x=some cs)(hσ:∀s,L s->(σ s).oneCell' =true){u:Value}(hx:aG w O L σ x u) :
 u.cells.size=cs.length/\ ∀j c,cs[j]? =some c->aG w O L σ c (u.cells.getD j Go.undef):=by
 have single:∀{x:AV} {u:Value},u.oneCell' =true->aG w O L σ x u->u.cells.size=[x].length/\ ∀j c,[x][j]? =some c->aG w O L σ c (u.cells.getD j Go.undef):=by
  intro x u h1 hx;have:u.cells= #[u]:=by cases u <;> first|rfl|cases h1
  rw[this];refine⟨rfl,λj c hj=>?_⟩;rcases j with _|j
  .cases hj;exact hx
  .simp at hj
 cases hx with
 |undef=>cases h
 |agg yk vs hl hh=>cases h;exact⟨hl,hh⟩
 |tuple=>cases h
 |d x v hr =>
  simp only[cellsOf]at h;split at h
  .rename_i h1;cases h;exact single (hr.jd h1) (.d x _ hr)
  .cases h
 |nil sz=>cases h;exact single rfl (.nil sz)
 |ptr s off b hL h' =>cases h;exact single rfl (.ptr s off b hL h')
 |own s hL=>cases h;exact single (hσ s hL) (.own s hL)
 |dm s size i off b n cap o0 hL h' =>cases h;exact single rfl (.dm s size i off b n cap o0 hL h')
 |tl s size i b n cap o0 hL h' =>cases h;exact single rfl (.tl s size i b n cap o0 hL h')
 |omap s hL=>cases h;exact single (hσ s hL) (.omap s hL)
 |maybe p b hb=>cases h;exact single rfl (.maybe p b hb)
 |fn f first hG xs vs hx hl h1 h2=>cases h;exact single rfl (.fn f first hG xs vs hx hl h1 h2)
def over(cells:List AV)(off:Nat)(cs:List AV):List AV:=cells.take off++cs++cells.drop (off+cs.length)
theorem Gd{cells cs:List AV}{off:Nat}(h:off+cs.length<=cells.length)(j:Nat):(over cells off cs)[j]? =if off<=j/\j<off+cs.length then cs[j-off]? else cells[j]? :=by
 unfold over;have yh:(cells.take off).length=off:=by simp;omega
 by_cases h1:j<off
 .rw[if_neg (by omega),List.append_assoc,cU (by omega),List.getElem?_take,if_pos h1]
 .by_cases h2:j<off+cs.length
  .rw[if_pos ⟨by omega,h2⟩,List.append_assoc,cL (by omega),yh,cU (by omega)]
  .rw[if_neg (by omega),cL (by simp;omega),List.getElem?_drop]
   congr 1;simp;omega
theorem yl{cells cs:List AV}{off:Nat}(h:off+cs.length<=cells.length):(over cells off cs).length=cells.length:=by
 unfold over;simp;omega
theorem CK(vs:List Value):∀(cells:Array Value) (off k:Nat) (j:Nat),off+k+vs.length<=cells.size ->
 ((vs.zipIdx k).foldl (λcs (p:Value×Nat)=>cs.setIfInBounds (off+p.2) p.1) cells).size=cells.size /\
 ((vs.zipIdx k).foldl (λcs (p:Value×Nat)=>cs.setIfInBounds (off+p.2) p.1) cells).getD j Go.undef=if off+k<=j/\j<off+k+vs.length then vs.getD (j-(off+k)) Go.undef else cells.getD j Go.undef:=by
 induction vs with
 |nil=>intro cells off k j _;simp;intro h1 h2;omega
 |cons v t ih =>
  intro cells off k j hle;simp only[List.zipIdx_cons,List.foldl_cons];simp only[List.length_cons]at hle;have:=ih (cells.setIfInBounds (off+k) v) off (k+1) j (by simp;omega);refine⟨by rw[this.1];simp,?_⟩;rw[this.2];by_cases h1:j=off+k
  .subst h1;rw[if_neg (by omega),if_pos (by simp)];simp[show off+k<cells.size by omega]
  .by_cases h2:off+k<=j/\j<off+k+(t.length+1)
   .rw[if_pos (by omega),if_pos (by simpa using h2)];obtain⟨m,hm⟩:∃m,j-(off+k)=m+1:=⟨j-(off+k)-1,by omega⟩
    rw[hm,show j-(off+(k+1))=m by omega];simp
   .rw[if_neg (by omega),if_neg (by simpa using h2)];simp only[bM];rw[Array.getElem?_setIfInBounds_ne (by omega)]
def Aa(cx:Cx)(fs:List (Nat×TypeId)):List AV->List (Nat×AV)->Option (List AV)
 |cells,[]=>some cells
 |cells,(i,v)::rest =>
  match fs[i]?, cellsOf v with
  |some (off,ft),some cs=>(match cx.ty ft with
   |some fi=>(match Nat.beq fi.size cs.length,Nat.ble (off+cs.length) cells.length with
    |true,true=>Aa cx fs (over cells off cs) rest
    |_,_=>none)
   |none=>none)
  |_,_=>none
theorem MU{cx:Cx}(hT:bD cx)(hσ:∀s,L s->(σ s).oneCell' =true){g:Array Field}{places:Array (Nat×Nat)}(hp:∀(i:Nat) hR fi,g[i]? =some hR->cx.ty hR.type=some fi->places[i]? =some (hR.offset,fi.size)) :
 ∀(parts:List (Nat×AV)) (us:List (Nat×Value)) (cells r:List AV) (vs:Array Value),Aa cx (g.toList.map λf=>(f.offset,f.type)) cells parts=some r ->
 us.length=parts.length->(∀(j:Nat) p,parts[j]? =some p-> ∃u,us[j]? =some (p.1,u)/\aG w O L σ p.2 u)->vs.size=cells.length->(∀j c,cells[j]? =some c->aG w O L σ c (vs.getD j Go.undef)) ->
 ∃kT,Instr.fill (places[·]?) vs us=some kT /\kT.size=r.length/\ ∀j c,r[j]? =some c->aG w O L σ c (kT.getD j Go.undef):=by
 intro parts;induction parts with
 |nil =>
  intro us cells r vs h hl _ hs hc;obtain rfl:us=[]:=List.eq_nil_of_length_eq_zero hl;simp only[Aa]at h;cases h;exact⟨vs,rfl,hs,hc⟩
 |cons p rest ih =>
  obtain⟨i,v⟩:=p;intro us cells r vs h hl hu hs hc;cases us with
  |nil=>simp at hl
  |cons q us =>
   obtain⟨u,hq,hr⟩:=hu 0 (i,v) rfl;obtain rfl:q=(i,u):=by simpa using hq
   simp only[Aa]at h;split at h
   .rename_i off ft cs hf kN;split at h
    .rename_i fi xm;split at h
     .rename_i e1 e2;have e1:fi.size=cs.length:=bd e1;have e2:off+cs.length<=cells.length:=bB e2;rw[bc]at hf;cases hg:g.toList[i]? with
      |none=>rw[hg]at hf;cases hf
      |some hR =>
       rw[hg]at hf;cases hf;have xn :g[i]? =some hR:=by rw[<- bx];exact hg
       have ya:=hp i hR fi xn xm;obtain⟨k1,k2⟩:=jE kN hσ hr;have hS:=λj=>CK u.cells.toList vs hR.offset 0 j (by simp;omega)
       have:=ih us _ r (u.cells.zipIdx.foldl (λcs (c,j)=>cs.setIfInBounds (hR.offset+j) c) vs) h (by simpa using hl) (λj p hj=>hu (j+1) p hj) ?_ ?_
       .obtain⟨kT,f1,f2⟩:=this;refine⟨kT,?_,f2⟩;simp only[Instr.fill,ya];rw[if_neg (by simp;omega)];exact f1
       .rw[yl e2, <- hs, <- (hS 0).1, <- Array.foldl_toList,Array.toList_zipIdx]
       .intro j c hj;rw[Gd e2]at hj;have e:(u.cells.zipIdx.foldl (λcs (c,j)=>cs.setIfInBounds (hR.offset+j) c) vs).getD j Go.undef=if hR.offset+0<=j/\j<hR.offset+0+u.cells.toList.length then u.cells.toList.getD (j-(hR.offset+0)) Go.undef else vs.getD j Go.undef:=by
         rw[<- (hS j).2, <- Array.foldl_toList,Array.toList_zipIdx]
        rw[e];have hlen:u.cells.toList.length=cs.length:=by simpa using k1
        rw[hlen];simp only[Nat.add_zero];split at hj
        .rename_i xp;rw[if_pos xp];have:=k2 _ c hj;simpa using this
        .rename_i xp;rw[if_neg xp];exact hc j c hj
     .cases h
    .cases h
   .cases h
end
def AB:AV->Option AV
 | .undef=>none
 | .d x=>some (.d x)
 | .nil sz=>some (.nil sz)
 | .ptr s o=>some (.ptr s o)
 | .own s=>some (.own s)
 | .dm a b c d=>some (.dm a b c d)
 | .tl a b c=>some (.tl a b c)
 | .omap s=>some (.omap s)
 | .maybe p=>some (.maybe p)
 | .agg cs=>some (.agg cs)
 | .tuple vs=>some (.tuple vs)
 | .fn f a b=>some (.fn f a b)
def uu:List AV->Option (List AV)
 |[]=>some []
 |c::t=>match AB c,uu t with|some c',some t' =>some (c' ::t')|_,_=>none
theorem ur{v r:AV}(h:AB v=some r):r=v:=by cases v <;> first|(cases h;rfl)|cases h
theorem qN:∀{l r:List AV},uu l=some r->r=l
 |[],r,h=>by cases h;rfl
 |c::t,r,h=>by
  simp only[uu]at h;split at h
  .rename_i c' t' h1 h2;cases h;rw[ur h1,qN h2]
  .cases h
def xw:List AV->Option (List AV)
 |[]=>some []
 |c::t=>match c with
  | .undef=>(match xw t with|some t' =>some (.undef::t')|none=>none)
  |c=>(match AB c,xw t with|some c',some t' =>some (c' ::t')|_,_=>none)
theorem uv:∀{l r:List AV},xw l=some r->r=l
 |[],r,h=>by cases h;rfl
 |c::t,r,h=>by
  unfold xw at h;split at h
  .split at h
   .rename_i t' h1;cases h;rw[uv h1]
   .cases h
  .split at h
   .rename_i c' t' h1 h2;cases h;rw[ur h1,uv h2]
   .cases h
def nU:AV->Option AV
 | .agg cs=>(match xw cs with|some cs=>some (.agg cs)|none=>none)
 |v=>AB v
theorem mZ{v r:AV}(h:nU v=some r):r=v:=by
 cases v <;> first|exact ur h|skip
 simp only[nU]at h;split at h
 .rename_i h1;cases h;rw[uv h1]
 .cases h
def ju(cx:Cx)(t:TypeId):AV->AV
 | .nil 0=>(match cx.ty t with|some ⟨_,_,.slice e,_⟩=>(match cx.ty e with|some ei=> .nil ei.size|none=> .nil 0)|_=> .nil 0)
 |v=>v
theorem jv{w:World}{O L:Nat->Prop}{σ:Nat->Value}{cx:Cx}{t:TypeId}{v:AV}{u:Value}(h:aG w O L σ v u):aG w O L σ (ju cx t v) u:=by
 unfold ju;split
 .cases h;split
  .split <;> exact .nil _
  .exact .nil _
 .exact h
def lR:Op->Bool
 | .move _=>true
 | .assign _=>true
 | .pick .. =>true
 | .load .. =>true
 | .nilCheck _=>true
 | .binOp .. =>true
 | .unOp .. =>true
 | .convert .. =>true
 | .build .. =>true
 | .makeFunc .. =>true
 | .slice .. =>true
 | .fieldAddr .. =>true
 | .field .. =>true
 | .indexAddr .. =>true
 | .index .. =>true
 | .extract .. =>true
 | .lookup .. =>true
 | .call c=>(match c.callee with| .builtin .len=>true|_=>false)
 |_=>false
def UH(cx:Cx)(o:Oper)(st:St)(v:AV):Prop :=
 ∀(E:Env) st' σ a w,st.le st' ->bN cx E st' σ a w-> ∃z,(execOp a.eval o).run cx.P w= .ok (.value z) w/\aG w E.O (live st'.heap) σ v z
def cV(cx:Cx)(o:Oper)(st:St)(v:AV)(bs:List (Nat×Blk)):Prop :=
 (∀(E:Env) st' a w (Q:Exit->Act->World->Prop),st.le st' ->(∀e,o.dst=some e->e<E.nt)->(∀s,live bs s-> ¬live st'.heap s)->Sim cx E st' a w ->
  o.wp cx.P a w (λa' w' =>Sim cx E (st'.put o.dst v bs) a' w') Q)/\(lR o.op=true->bs=[]/\UH cx o st v)
theorem cV.Ej{cx:Cx}{o:Oper}{st:St}{v:AV}{bs:List (Nat×Blk)}(hp:lR o.op=false)(h:∀(E:Env) st' a w (Q:Exit->Act->World->Prop),st.le st' ->(∀e,o.dst=some e->e<E.nt)->(∀s,live bs s-> ¬live st'.heap s)->Sim cx E st' a w ->
 o.wp cx.P a w (λa' w' =>Sim cx E (st'.put o.dst v bs) a' w') Q):cV cx o st v bs:=⟨h,λe=>by rw[hp]at e;cases e⟩
theorem bN.one{cx:Cx}{E:Env}{st:St}{σ:Nat->Value}{a:Act}{w:World}(h:bN cx E st σ a w):∀s,live st.heap s->(σ s).oneCell' =true:=λs hs=>by
 obtain⟨b,hb⟩:=aH.1 hs;exact(h.holds.blk s b hb).home.2
theorem cV.value{cx:Cx}{o:Oper}{st:St}{v:AV}
 (h:∀(E:Env) st' σ a w,st.le st' ->bN cx E st' σ a w-> ∃z,(execOp a.eval o).run cx.P w= .ok (.value z) w/\aG w E.O (live st'.heap) σ v z):cV cx o st v []:=by
 refine⟨?_,λ_=>⟨rfl,h⟩⟩;intro E st' a w Q hle hd _ ⟨σ,hs⟩;obtain⟨z,hz,hr⟩:=h E st' σ a w hle hs;simp only[Oper.wp,hz,Oper.upon];exact⟨σ,hs.put hd hr⟩
theorem cv{d:Nat}{b:Blk}{s:Nat}:live [(d,b)] s ↔ s=d:=by
 unfold live find find;by_cases h:d=s
 .subst h;simp
 .have:Nat.beq d s=false:=by rw[<- Bool.not_eq_true];exact λe=>h (bd e)
  simp[this];exact λe=>h e.symm
theorem cV.new{cx:Cx}{o:Oper}{st:St}{v:AV}{d:Nat}{b:Blk}(hp:lR o.op=false)(xk:o.dst=some d)
 (h:∀(E:Env) st' σ a w,st.le st' ->bN cx E st' σ a w-> ∃w' u τ,(execOp a.eval o).run cx.P w= .ok (.value u) w' /\Below w.heap.size w w' /\(∀g,home τ=some g->w.heap.size<=g) /\
  ∀σ' :Nat->Value,σ' d=τ->(∀g,w.heap.size<=g->E.F g)->bw w w' (Own E.O (live st'.heap) σ) (Own E.O (live ([(d,b)]++st'.heap)) σ')->(∀s,live st'.heap s->live ([(d,b)]++st'.heap) s/\σ' s=σ s)->live ([(d,b)]++st'.heap) d ->
   cZ w' E.F E.O (live ([(d,b)]++st'.heap)) σ' d b/\aG w' E.O (live ([(d,b)]++st'.heap)) σ' v u):cV cx o st v [(d,b)]:=by
 refine cV.Ej hp ?_;intro E st' a w Q hle hd kq ⟨σ,hs⟩;obtain⟨w',u,τ,hz,kf,kF,hh⟩:=h E st' σ a w hle hs;simp only[Oper.wp,hz,Oper.upon];have hn:¬live st'.heap d:=kq d (cv.2 rfl)
 let σ' :Nat->Value:=λs=>if s=d then τ else σ s
 have e1:σ' d=τ:=if_pos rfl;have e2:∀s,live st'.heap s->σ' s=σ s:=λs hl=>if_neg λ(e:s=d)=>hn (e ▸ hl)
 have kW:bw w w' (Own E.O (live st'.heap) σ) (Own E.O (live ([(d,b)]++st'.heap)) σ'):=by
  refine⟨kf.size,λx _ hx=>kf.block x hx,λx xf hx ho=>?_⟩;rcases ho with ho|⟨s,hl,e⟩
  .exact xf (.inl ho)
  .rcases cJ.1 hl with hl|hl
   .rw[cv.1 hl,e1]at e;have:=kF x e;omega
   .rw[e2 s hl]at e;exact xf (.inr ⟨s,hl,e⟩)
 obtain⟨hb,hr⟩:=hh σ' e1 (λg hg=>hs.new g (Nat.le_trans hs.frame.size hg)) kW (λs hl=>⟨cJ.2 (.inr hl),e2 s hl⟩) (cJ.2 (.inl (cv.2 rfl)));have xQ:∀q0 B,E.fix q0=some B-> ¬live [(d,b)] q0:=λq0 B hB hl=>by
  have h1:=(hs.fix q0 B hB).1;have h2:d<E.nt:=hd d xk;have h3:q0=d:=cv.1 hl;omega
 refine⟨σ',hs.grow hd e2 kf xQ (λs x hl e=>?_) (λs s' x hl xt _ _=>(cv.1 hl).trans (cv.1 xt).symm) (λs x hx=>?_) hr⟩
 .rw[cv.1 hl,e1]at e;exact kF x e
 .have hl:=cv.1 (aH.2 ⟨x,hx⟩);subst hl;rw[bk]at hx;cases hx;exact hb
theorem jl(w:World)(o:Obj):Below w.heap.size w (w.alloc o):=(Below.refl _ _).alloc (Nat.le_refl _) o
theorem pP{w w' :World}(h:w.grownBy w' none):Below w.heap.size w w' :=(Below.refl _ w).grown h (Nat.le_refl _) λk e=>by cases e
def gq(P:Program)(f:FuncId):Prop:= ∃fn,P.funcs[f]? =some fn/\(fn.name== "runtime.NumGoroutine")=false/\fn.body.isNone=false
def Fn(cx:Cx)(f:FuncId)(args:List D)(v:AV)(bs:List (Nat×Blk)):Prop :=
 gq cx.P f/\ ∀(O:Nat->Prop) (w:World) (vs:Array Value),(∀b,O b->b<w.heap.size)->jC cx w->(∀g cells,cx.gl g=some cells-> ¬O g)->vs.size=args.length ->
  (∀(j:Nat) d,args[j]? =some d->Rep w O d (vs.getD j Go.undef)) ->
  Calls cx.P f vs w λe w' => ∃u τ,e= .returned u/\Below w.heap.size w w' /\Holds w' (w.heap.size<= ·) O bs τ/\aG w' O (live bs) τ v u
def FnB(cx:Cx)(f:FuncId)(cells args:List D)(v:AV)(cells' :List D):Prop :=
 gq cx.P f/\ ∀(O:Nat->Prop) (w:World) (B:Nat) (cur:Array Value) (t:TypeId) (vs:Array Value),(∀b,O b->b<w.heap.size)->jC cx w->(∀g cells,cx.gl g=some cells-> ¬O g)->O B ->
  w.heap[B]? =some (.cells cur t (0,0))->cur.size=cells.length->(∀(j:Nat) d,cells[j]? =some d->d.one=true/\Rep w O d (cur.getD j Go.undef))->vs.size=args.length->(∀(j:Nat) d,args[j]? =some d->Rep w O d (vs.getD j Go.undef)) ->
  Calls cx.P f (#[.pointer (some ⟨B,0,none⟩)]++vs) w λen w' => ∃u kH t',en= .returned u/\w'.os=w.os/\w'.tape=w.tape/\w'.output=w.output/\w.heap.size<=w'.heap.size /\
   (∀k,k<w.heap.size->k≠B->w'.heap[k]? =w.heap[k]?)/\w'.heap[B]? =some (.cells kH t' (0,0))/\kH.size=cells'.length/\(∀(j:Nat) d,cells'[j]? =some d->d.one=true/\Rep w' O d (kH.getD j Go.undef)) /\
   aG w' O (λ_=>False) (λ_=> .nilFunc) v u
def cA(f:AV->Option D):List AV->Option (List D)
 |[]=>some []
 |c::t=>match f c,cA f t with|some x,some xs=>some (x::xs)|_,_=>none
theorem cD{f:AV->Option D}:∀{l:List AV} {r:List D},cA f l=some r->r.length=l.length/\ ∀(j:Nat) d,r[j]? =some d-> ∃c,l[j]? =some c/\f c=some d
 |[],r,h=>by cases h;exact⟨rfl,λj d hj=>by simp at hj⟩
 |c::t,r,h=>by
  simp only[cA]at h;split at h
  .rename_i x xs h1 h2;cases h;obtain⟨e1,e2⟩:=cD h2;refine⟨by simp[e1],λj d hj=>?_⟩;cases j with
   |zero=>simp at hj;subst hj;exact⟨c,rfl,h1⟩
   |succ j=>simp at hj;simpa using e2 j d hj
  .cases h
def eI:AV->Option D
 | .d x=>some x
 | .nil sz=>some (.slice sz [])
 |_=>none
def zO:AV->Bool
 | .ptr _ off=>Nat.beq off 0
 | .d (.ptr [.cY _])=>false
 |_=>true
def Rb(p:List UInt8×D):List D×D:=([.tuple [.str p.1]],p.2)
def mo:AV->Option D
 | .fn f first hG=>(match cA eI first,cA eI hG with|some a,some b=>(match hG.all zO with|true=>some (.fn f a b)|false=>none)|_,_=>none)
 |v=>eI v
def Ce(x:D):Bool:=x.one
def ir:AV->Option D
 | .agg cs=>(match cA mo cs with|some xs=>(match xs.all Ce with|true=>some (.agg xs)|false=>none)|none=>none)
 |v=>mo v
def kK(st:St):AV->Option D
 | .omap s=>(match find st.heap s with|some (.smap m)=>some (.cY (m.map Rb))|some (.cY m)=>some (.cY m)|_=>none)
 | .own s=>(match find st.heap s with|some (.row _ sz rows _)=>some (.slice sz rows)|_=>none)
 |v=>eI v
def gi(st:St):AV->Option D
 | .ptr s off=>(match find st.heap s with|some (.box cells)=>(match cA (kK st) (cells.drop off)with|some xs=>(match xs.all Ce with|true=>some (.ptr xs)|false=>none)|none=>none)|_=>none)
 |v=>kK st v
def oc(st:St):AV->Option D
 | .fn f first hG=>(match cA (gi st) first,cA (gi st) hG with|some a,some b=>(match hG.all zO with|true=>some (.fn f a b)|false=>none)|_,_=>none)
 |v=>gi st v
def mI(st:St)(s off:Nat):Option AV :=
 match off,find st.heap s with
 |0,some (.box [c])=>some c
 |_,_=>none
def lD(st:St):AV->Option D
 | .ptr s off=>(match mI st s off with
  |some (.fn f a b)=>(match oc st (.fn f a b)with|some x=>some (.ptr [x])|none=>none)
  |_=>gi st (.ptr s off))
 |v=>gi st v
def jL(st:St):AV->Option D
 | .fn f first hG=>(match cA (gi st) first,cA (lD st) hG with|some a,some b=>(match hG.all zO with|true=>some (.fn f a b)|false=>none)|_,_=>none)
 |v=>gi st v
def gU(st:St):AV->Option D
 | .agg cs=>(match cA (jL st) cs with|some xs=>(match xs.all Ce with|true=>some (.agg xs)|false=>none)|none=>none)
 |v=>jL st v
section
variable {w:World} {O L:Nat->Prop} {σ:Nat->Value}
theorem iC{v:AV}{x:D}(h:eI v=some x){u:Value}(hr:aG w O L σ v u):Rep w (Own O L σ) x u:=by
 cases v <;> simp only[eI]at h <;> try (cases h;done)
 .cases h;cases hr;assumption
 .cases h;cases hr;exact .empty _ _ _
theorem pc{v:AV}{x:D}(h:mo v=some x){u:Value}(hr:aG w O L σ v u):Rep w (Own O L σ) x u:=by
 cases v <;> try (refine iC ?_ hr;exact h)
 simp only[mo]at h;split at h
 .rename_i a b h1 h2;split at h
  case h_2=>cases h
  rename_i kg;cases h;cases hr with|fn f first hG xs vs hx hl g1 g2 =>
   obtain⟨l1,k1⟩:=cD h1;obtain⟨l2,k2⟩:=cD h2;refine .fn _ _ _ _ _ (hx.trans l1.symm) (hl.trans l2.symm) (λj d hj=>?_) (λj d hj=>?_) (λj m hj=>?_)
   rotate_left 2
   .obtain⟨c,hc,hd⟩:=k2 j _ hj;have ha:=aI.1 kg c (aD hc);cases c <;> simp only[eI]at hd <;> cases hd;cases ha
   .obtain⟨c,hc,hd⟩:=k1 j d hj;exact iC hd (g1 j c hc)
   .obtain⟨c,hc,hd⟩:=k2 j d hj;exact iC hd (g2 j c hc)
 .cases h
theorem jr{v:AV}{x:D}(h:ir v=some x){u:Value}(hr:aG w O L σ v u):Rep w (Own O L σ) x u:=by
 cases v <;> try (refine pc ?_ hr;exact h)
 simp only[ir]at h;split at h
 .rename_i xs h1;split at h
  .rename_i h2;cases h;cases hr with|agg cs vs hl g =>
    obtain⟨l1,k1⟩:=cD h1;refine .agg _ _ (hl.trans l1.symm) (λd hd=>aI.1 h2 d hd) (λj d hj=>?_);obtain⟨c,hc,hd⟩:=k1 j d hj;exact pc hd (g j c hc)
  .cases h
 .cases h
theorem Dl{st:St}{F:Nat->Prop}(hh:Holds w F O st.heap σ)(hP:∀b,O b-> ¬F b){v:AV}{x:D}(h:kK st v=some x){u:Value}(hr:aG w O (live st.heap) σ v u):Rep w O x u:=by
 have kl:bw w w (Own O (live st.heap) σ) O:=bw.less λb h=> .inl h
 cases v <;> try (refine Rep.mono kl (iC ?_ hr);exact h)
 case omap s =>
  simp only[kK]at h;split at h
  .rename_i m hf;cases h;cases hr with|omap _ hL =>
    obtain⟨b,es,clock,e1,e2,e3,e4,e5⟩:=hh.blk s _ hf;rw[e1];refine .ofMap (λho=>hP b ho e2) (bI.1 e3).1 e3 ⟨⟨by simpa using e4.1,e4.2⟩,λj k v hj=>?_⟩;rw[bc]at hj;cases hp:m[j]? with
    |none=>rw[hp]at hj;cases hj
    |some p =>
     obtain⟨k0,v0⟩:=p;rw[hp]at hj;cases hj;obtain⟨e,h1,h2,h3⟩:=e5 j k0 v0 hp;refine⟨e,h1,.inl ⟨_,rfl,?_⟩,h3.mono kl⟩;generalize e.key=ek at h2;cases h2 with|str _ b hb=>exact⟨b,rfl,hb⟩
  .rename_i m hf;cases h;cases hr with|omap _ hL =>
    obtain⟨b,es,clock,e1,e2,e3,e4⟩:=hh.blk s _ hf;rw[e1];exact .ofMap (λho=>hP b ho e2) (bI.1 e3).1 e3 (e4.mono λ_ _ h=>h.mono kl)
  .cases h
 rename_i s;simp only[kK]at h;split at h
 .rename_i e sz rows fl hf;cases h;cases hr with|own _ hL =>
   obtain⟨xs,o1,o2,o3,o4,o5⟩:=hh.blk s _ hf;rcases o1.2 with ⟨e1,e2⟩|⟨g,cap,cur,e1,_,e3,e4,_,e6,e7⟩
   .obtain rfl:rows=[]:=List.eq_nil_of_length_eq_zero e2;rw[e1];exact .empty _ _ _
   .rw[e1];have hA:∀(i:Nat) r (j:Nat) d,rows[i]? =some r->r[j]? =some d->w.cell? ⟨g,0+i*sz+j,none⟩=some (xs.getD (i*sz+j) Go.undef)/\Rep w O d (xs.getD (i*sz+j) Go.undef):=by
     intro i r j d hi hj;obtain⟨u,hu,hd⟩:=o5 i r j d hi hj;have hx:xs.getD (i*sz+j) Go.undef=u:=by simp[List.getD,hu]
     rw[hx];refine⟨?_,hd.mono kl⟩;rw[<- e7,List.getElem?_take]at hu;split at hu
     .simp only[World.cell?,e3,Nat.zero_add];simpa using hu
     .cases hu
    exact .slice sz rows g 0 _ cap (λi j=>xs.getD (i*sz+j) Go.undef) rfl (λh=>hP g h (o2 g (by rw[e1];rfl))) (bI.1 e3).1 e4 o4 (λi r j d hi hj=>(hA i r j d hi hj).1) (λi r j d hi hj=>(hA i r j d hi hj).2)
 .cases h
theorem lZ{st:St}{F:Nat->Prop}(hh:Holds w F O st.heap σ)(hP:∀b,O b-> ¬F b){v:AV}{x:D}(h:gi st v=some x){u:Value}(hr:aG w O (live st.heap) σ v u):Rep w O x u:=by
 cases v <;> try (refine Dl hh hP ?_ hr;exact h)
 rename_i s off;simp only[gi]at h;split at h
 .rename_i cells hf;split at h
  .rename_i xs h1;split at h
   .rename_i h2;cases h;cases hr with|ptr _ _ b hL hs =>
     obtain⟨b',cur,t,e1,e2,e3,e4,e5⟩:=hh.blk s _ hf;rw[hs]at e1;cases e1;obtain⟨l1,k1⟩:=cD h1;have hA:∀(j:Nat) d,xs[j]? =some d->w.cell? ⟨b,off+j,none⟩=some (cur.getD (off+j) Go.undef)/\Rep w O d (cur.getD (off+j) Go.undef):=by
      intro j d hj;obtain⟨c,hc,hd⟩:=k1 j d hj;rw[List.getElem?_drop]at hc;have hD:off+j<cur.size:=by have:=(aB.1 hc).1;omega
      refine⟨by simp[World.cell?,e3,hD],Dl hh hP hd (e5 _ c hc).2⟩
     exact .ptr xs b off (λj=>cur.getD (off+j) Go.undef) (λh=>hP b h e2) (bI.1 e3).1 (λd hd=>aI.1 h2 d hd) (λj d hj=>(hA j d hj).1) (λj d hj=>(hA j d hj).2)
   .cases h
  .cases h
 .cases h
theorem Dn{st:St}{c:AV}{m:List (List D×D)}(hd:gi st c=some (.ptr [.cY m]))(ha:zO c=true){w:World}{O L:Nat->Prop}{σ:Nat->Value}{u:Value}(hr:aG w O L σ c u):∃B,u= .pointer (some ⟨B,0,none⟩):=by
 cases c with
 |ptr s off =>
  obtain rfl:off=0:=bd ha;cases hr with|ptr _ _ b hL hs=>exact⟨b,rfl⟩
 |own s =>
  simp only[gi,kK]at hd;split at hd <;> cases hd
 |omap s =>
  simp only[gi,kK]at hd;split at hd <;> cases hd
 |d x=>cases hd;cases ha
 |nil sz=>cases hd
 |_=>cases hd
theorem OG{st:St}{F:Nat->Prop}(hh:Holds w F O st.heap σ)(hP:∀b,O b-> ¬F b){v:AV}{x:D}(h:oc st v=some x){u:Value}(hr:aG w O (live st.heap) σ v u):Rep w O x u:=by
 cases v <;> try (refine lZ hh hP ?_ hr;exact h)
 simp only[oc]at h;split at h
 .rename_i a b h1 h2;split at h
  case h_2=>cases h
  rename_i kg;cases h;cases hr with|fn f first hG xs vs hx hl g1 g2 =>
   obtain⟨l1,k1⟩:=cD h1;obtain⟨l2,k2⟩:=cD h2;refine .fn _ _ _ _ _ (hx.trans l1.symm) (hl.trans l2.symm) (λj d hj=>?_) (λj d hj=>?_) (λj m hj=>?_)
   rotate_left 2
   .obtain⟨c,hc,hd⟩:=k2 j _ hj;exact Dn hd (aI.1 kg c (aD hc)) (g2 j c hc)
   .obtain⟨c,hc,hd⟩:=k1 j d hj;exact lZ hh hP hd (g1 j c hc)
   .obtain⟨c,hc,hd⟩:=k2 j d hj;exact lZ hh hP hd (g2 j c hc)
 .cases h
theorem MJ{st:St}{s off:Nat}{c:AV}(h:mI st s off=some c):off=0/\find st.heap s=some (.box [c]):=by
 unfold mI at h;split at h
 .rename_i hf;cases h;exact⟨rfl,hf⟩
 .cases h
theorem Ru{st:St}{f:FuncId}{a b:List AV}{x:D}(h:oc st (.fn f a b)=some x):∃a' b',x= .fn f a' b' :=by
 simp only[oc]at h;split at h
 .split at h
  .cases h;exact⟨_,_,rfl⟩
  .cases h
 .cases h
theorem OF{st:St}{F:Nat->Prop}(hh:Holds w F O st.heap σ)(hP:∀b,O b-> ¬F b){v:AV}{x:D}(h:lD st v=some x){u:Value}(hr:aG w O (live st.heap) σ v u):Rep w O x u:=by
 cases v <;> try (refine lZ hh hP ?_ hr;exact h)
 rename_i s off;simp only[lD]at h;split at h
 .rename_i f a b hc;split at h
  .rename_i y hy;cases h;obtain⟨rfl,hf⟩:=MJ hc;obtain⟨a',b',rfl⟩:=Ru hy;cases hr with|ptr _ _ g hL hs =>
    obtain⟨g',cur,t,e1,e2,e3,e4,e5⟩:=hh.blk s _ hf;rw[hs]at e1;cases e1;have yd:=OG hh hP hy (e5 0 _ rfl).2;refine .ptr _ g 0 (λj=>cur.getD j Go.undef) (λh=>hP g h e2) (bI.1 e3).1 (λd hd=>by rw[List.mem_singleton.1 hd];rfl) (λj d hj=>?_) (λj d hj=>?_)
    .rcases j with _|j
     .have hD:0<cur.size:=by rw[e4];exact Nat.one_pos
      simp[World.cell?,e3,hD]
     .simp at hj
    .rcases j with _|j
     .cases hj;exact yd
     .simp at hj
  .cases h
 .exact lZ hh hP h hr
theorem OE{st:St}{c:AV}{m:List (List D×D)}(hd:lD st c=some (.ptr [.cY m]))(ha:zO c=true){w:World}{O L:Nat->Prop}{σ:Nat->Value}{u:Value}(hr:aG w O L σ c u):∃B,u= .pointer (some ⟨B,0,none⟩):=by
 cases c with
 |ptr s off =>
  obtain rfl:off=0:=bd ha;cases hr with|ptr _ _ b hL hs=>exact⟨b,rfl⟩
 |_=>exact Dn (st:=st) (m:=m) (by simpa only[lD] using hd) ha hr
theorem Dm{st:St}{F:Nat->Prop}(hh:Holds w F O st.heap σ)(hP:∀b,O b-> ¬F b){v:AV}{x:D}(h:jL st v=some x){u:Value}(hr:aG w O (live st.heap) σ v u):Rep w O x u:=by
 cases v <;> try (refine lZ hh hP ?_ hr;exact h)
 simp only[jL]at h;split at h
 .rename_i a b h1 h2;split at h
  case h_2=>cases h
  rename_i kg;cases h;cases hr with|fn f first hG xs vs hx hl g1 g2 =>
   obtain⟨l1,k1⟩:=cD h1;obtain⟨l2,k2⟩:=cD h2;refine .fn _ _ _ _ _ (hx.trans l1.symm) (hl.trans l2.symm) (λj d hj=>?_) (λj d hj=>?_) (λj m hj=>?_)
   rotate_left 2
   .obtain⟨c,hc,hd⟩:=k2 j _ hj;exact OE hd (aI.1 kg c (aD hc)) (g2 j c hc)
   .obtain⟨c,hc,hd⟩:=k1 j d hj;exact lZ hh hP hd (g1 j c hc)
   .obtain⟨c,hc,hd⟩:=k2 j d hj;exact OF hh hP hd (g2 j c hc)
 .cases h
theorem wQ{st:St}{F:Nat->Prop}(hh:Holds w F O st.heap σ)(hP:∀b,O b-> ¬F b){v:AV}{x:D}(h:gU st v=some x){u:Value}(hr:aG w O (live st.heap) σ v u):Rep w O x u:=by
 cases v <;> try (refine Dm hh hP ?_ hr;exact h)
 simp only[gU]at h;split at h
 .rename_i xs h1;split at h
  .rename_i h2;cases h;cases hr with|agg cs vs hl g =>
    obtain⟨l1,k1⟩:=cD h1;refine .agg _ _ (hl.trans l1.symm) (λd hd=>aI.1 h2 d hd) (λj d hj=>?_);obtain⟨c,hc,hd⟩:=k1 j d hj;exact Dm hh hP hd (g j c hc)
  .cases h
 .cases h
end
def Kj(sz:Nat)(rows:List (List D))(p:Nat):Option D:=match rows[p / sz]? with
 |some r=>r[p % sz]?
 |none=>none
def BM:D->D->Bool
 | .int k n,.int k' n' => !(decide (k=k')&&(n==n'))
 | .bool a,.bool b=> !(a==b)
 | .str a,.str b=> !(a==b)
 | .int _ _,_=>true
 | .bool _,_=>true
 | .str _,_=>true
 |_,_=>false
def Ld(p:Nat×List (List D))(r:List D):Bool:= !r.isEmpty&&(List.range (p.2.length*p.1)).all λoff=>(List.range r.length).any λj =>
 match Kj p.1 p.2 (off+j),r[j]? with
 |some c,some d=>BM c d
 |none,some _=>true
 |_,none=>false
def apD(L:List (Nat×List (List D))):Nat->D->Bool
 |0,_=>false
 |n+1,.slice _ rows=>(match rows with|[]=>true|r::_=>L.all λp=>Ld p r)&&rows.all λr=>r.all (apD L n)
 |n+1,.agg cs=>cs.all (apD L n)
 |n+1,.tuple cs=>cs.all (apD L n)
 |_+1,.int _ _=>true
 |_+1,.bool _=>true
 |_+1,.str _=>true
 |_,_=>false
def Ef(w:World)(b:Nat)(p:Nat×List (List D)):Prop:=0<p.1/\(∀r∈p.2,r.length=p.1)/\ ∃cur t fr,w.heap[b]? =some (.cells cur t fr)/\cur.size=p.2.length*p.1 /\
 ∀i r j d,p.2[i]? =some r->r[j]? =some d-> ∃O,Rep w O d (cur.getD (i*p.1+j) Go.undef)
theorem Kt{w:World}{O O' :Nat->Prop}{c d:D}{v:Value}(h:BM c d=true)(hc:Rep w O c v)(hd:Rep w O' d v):False:=by
 unfold BM at h;split at h
 .cases hc;cases hd;simp at h
 .cases hc;cases hd;simp at h
 .cases hc with|str _ b hb=>cases hd with|str _ _ xI =>subst hb xI;simp at h
 .rename_i h1;cases hc;cases hd;exact h1 _ _ rfl
 .rename_i h1;cases hc;cases hd;exact h1 _ rfl
 .rename_i h1;cases hc;cases hd;exact h1 _ rfl
 .cases h
theorem Ie{w:World}{O:Nat->Prop}{b off:Nat}{p:Nat×List (List D)}{r:List D}{us:Nat->Value}(h:Ld p r=true)(hL:Ef w b p)(h1:∀j d,r[j]? =some d->w.cell? ⟨b,off+j,none⟩=some (us j))
 (h2:∀j d,r[j]? =some d->Rep w O d (us j)):False:=by
 obtain⟨hz,hlen,cur,t,fr,hb,hs,kM⟩:=hL;have kA:∀j d,r[j]? =some d->cur[off+j]? =some (us j):=λj d hj=>by
  have:=h1 j d hj;simp only[World.cell?,hb]at this;simpa using this
 unfold Ld at h;simp only[aU,Bool.not_eq_true',List.isEmpty_eq_false_iff,aI,List.mem_range,List.any_eq_true]at h;obtain⟨xv,h⟩:=h;obtain⟨d0,r',rfl⟩:=List.exists_cons_of_ne_nil xv;have hD:off<p.2.length*p.1:=by
  have:=(bI.1 (kA 0 d0 rfl)).1;omega
 obtain⟨j,hj,h⟩:=h off hD;generalize d0::r' =r at *
 obtain⟨d,hd⟩:∃d,r[j]? =some d:=⟨_,au hj⟩
 rw[hd]at h;have hc:=kA j d hd;have xW:=(bI.1 hc).1;have hq:(off+j) / p.1<p.2.length:=Nat.div_lt_of_lt_mul (by rw[Nat.mul_comm];omega);have hm:(off+j) % p.1<p.1:=Nat.mod_lt _ hz;have he:(off+j) / p.1*p.1+(off+j) % p.1=off+j:=by rw[Nat.mul_comm];exact Nat.div_add_mod ..
 obtain⟨row,hI⟩:∃row,p.2[(off+j) / p.1]? =some row:=⟨_,au hq⟩
 have yf:=hlen row (aD hI);obtain⟨c,xd⟩:∃c,row[(off+j) % p.1]? =some c:=⟨_,au (by rw[yf];exact hm)⟩
 obtain⟨O',hr⟩:=kM _ _ _ _ hI xd;rw[he]at hr;have xL:Kj p.1 p.2 (off+j)=some c:=by unfold Kj;rw[hI];exact xd
 rw[xL]at h;have hu:cur.getD (off+j) Go.undef=us j:=by rw[bM,hc];rfl
 rw[hu]at hr;exact Kt h hr (h2 j d hd)
theorem Ms{w:World}{O1 O2:Nat->Prop}{L:List (Nat×List (List D))}(hO:∀b,O2 b-> ¬O1 b->b<w.heap.size-> ∃p∈L,Ef w b p){d:D}{u:Value}(h:Rep w O1 d u):∀n,apD L n d=true->Rep w O2 d u:=by
 induction h with
 |int=>intro n _;exact .int _ _
 |bool=>intro n _;exact .bool _
 |str s b h=>intro n _;exact .str s b h
 |empty=>intro n _;exact .empty _ _ _
 |slice sz rows B off n cap us hn xD hB hc hl h1 h2 ih =>
  intro m hm;cases m with
  |zero=>cases hm
  |succ m =>
   simp only[apD,aU,aI]at hm;cases rows with
   |nil=>obtain rfl:n=0:=hn.symm;exact .empty _ _ _
   |cons r t =>
    refine .slice sz _ B off n cap us hn (λhb=>?_) hB hc hl h1 λi r' j d hi hj=>ih i r' j d hi hj m (hm.2 r' (aD hi) d (aD hj))
    obtain⟨p,hp,hL⟩:=hO B hb xD hB;have:=hm.1;simp only[aI]at this;refine Ie (off:=off+0*sz) (this p hp) hL (λj d hj=>h1 0 r j d rfl hj) (λj d hj=>h2 0 r j d rfl hj)
 |agg cells vs hl h1 h ih =>
  intro m hm;cases m with
  |zero=>cases hm
  |succ m =>
   simp only[apD,aI]at hm;exact .agg cells vs hl h1 λj d hj=>ih j d hj m (hm d (aD hj))
 |tuple cells vs hl h ih =>
  intro m hm;cases m with
  |zero=>cases hm
  |succ m =>
   simp only[apD,aI]at hm;exact .tuple cells vs hl λj d hj=>ih j d hj m (hm d (aD hj))
 |ptr=>intro m hm;cases m <;> cases hm
 |fn=>intro m hm;cases m <;> cases hm
 |cY=>intro m hm;cases m <;> cases hm
 |iy=>intro _ _;exact .iy
def qD(rows:List (List D)):Bool:=rows.all λr=>r.all D.fG
def oa(st:St):AV->Option D
 | .own s=>(match find st.heap s with|some (.row _ sz rows true)=>(match qD rows with|true=>some (.slice sz rows)|false=>none)|_=>none)
 |v=>mo v
def nZ(st:St):AV->Option D
 | .agg cs=>(match cA (oa st) cs with|some xs=>(match xs.all Ce with|true=>some (.agg xs)|false=>none)|none=>none)
 |v=>oa st v
theorem Hv{st:St}{v:AV}{x:D}(h:mo v=some x):jL st v=some x:=by
 have hC:∀c y,eI c=some y->gi st c=some y:=λc y hc=>by
  cases c <;> simp only[eI]at hc <;> first|(cases hc;rfl)|cases hc
 cases v <;> try (simp only[mo]at h;exact hC _ _ h)
 simp only[mo]at h;split at h
 .rename_i a b e1 e2;simp only[jL];have hB:∀c y,eI c=some y->lD st c=some y:=λc y hc=>by
   cases c <;> simp only[eI]at hc <;> first|(cases hc;rfl)|cases hc
  have key:∀(g:AV->Option D),(∀c y,eI c=some y->g c=some y)-> ∀(l:List AV) a,cA eI l=some a->cA g l=some a:=λg hg l=>by
   induction l with
   |nil=>intro a h;exact h
   |cons c t ih =>
    intro a h;simp only[cA]at h ⊢;split at h
    .rename_i x xs e1 e2;cases h;rw[hg _ _ e1,ih _ e2]
    .cases h
  rw[key _ hC _ _ e1,key _ hB _ _ e2];exact h
 .cases h
theorem yy{st:St}{v:AV}{x:D}(h:oa st v=some x):jL st v=some x:=by
 cases v <;> try (exact Hv (show mo _=some x from h))
 rename_i s;simp only[oa]at h;split at h
 .rename_i hf;split at h
  .cases h;simp only[jL,gi,kK,hf]
  .cases h
 .cases h
theorem wR{f g:AV->Option D}(h:∀c y,f c=some y->g c=some y):∀(l:List AV) a,cA f l=some a->cA g l=some a
 |[],a,e=>e
 |c::t,a,e=>by
  simp only[cA]at e ⊢;split at e
  .rename_i x xs e1 e2;cases e;rw[h _ _ e1,wR h t _ e2]
  .cases e
theorem IF{st:St}{v:AV}{x:D}(h:nZ st v=some x):gU st v=some x:=by
 cases v
 case agg cs =>
  simp only[nZ]at h;split at h
  .rename_i xs e1;simp only[gU];rw[wR (λc y=>yy) _ _ e1];exact h
  .cases h
 all_goals (simp only[gU];simp only[nZ]at h;exact yy h)
def Aq(st:St):List (Nat×List (List D)):=st.heap.filterMap λp=>match p.2 with
 | .row _ sz rows true=>(match qD rows with|true=>some (sz,rows)|false=>none)
 |_=>none
theorem CN{e:TypeId}{sz:Nat}{rows:List (List D)}(hr:qD rows=true){s:Nat}:∀{h:List (Nat×Blk)},find h s=some (.row e sz rows true)-> ∃p∈h,p.2= .row e sz rows true
 |[],hf=>by cases hf
 |(k,x)::t,hf=>by
  unfold find at hf;split at hf
  .cases hf;exact⟨_,List.mem_cons_self .., rfl⟩
  .obtain⟨p,hp,e⟩:=CN hr hf;exact⟨p,bC _ hp,e⟩
theorem NH{st:St}{e:TypeId}{sz:Nat}{rows:List (List D)}(hr:qD rows=true){s:Nat}(hf:find st.heap s=some (.row e sz rows true)):(sz,rows)∈Aq st:=by
 obtain⟨p,hp,he⟩:=CN hr hf;unfold Aq;rw[List.mem_filterMap];refine⟨p,hp,?_⟩;rw[he];dsimp only;rw[hr]
def ap2(L:List (Nat×List (List D))):AV->Bool
 | .d x=>apD L 30 x
 | .agg cs=>cs.all fun| .d x=>apD L 30 x|_=>false
 |_=>false
def apV(L:List (Nat×List (List D))):AV->Bool
 | .tuple vs=>vs.all (ap2 L)
 |v=>ap2 L v
def Ap(st:St)(args:List AV)(v:AV):Bool:=match cA (nZ st) args with
 |some _=>apV (Aq st) v
 |none=>false
theorem IP{w:World}{O1 O2 L1 L2:Nat->Prop}{σ1 σ2:Nat->Value}{L:List (Nat×List (List D))}(hO:∀b,Own O2 L2 σ2 b-> ¬Own O1 L1 σ1 b->b<w.heap.size-> ∃p∈L,Ef w b p){c:AV}{v:Value}(h:aG w O1 L1 σ1 c v)(hf:ap2 L c=true):aG w O2 L2 σ2 c v:=by
 cases h with
 |d x v h=>exact .d _ _ (Ms hO h 30 hf)
 |agg cs vs hl h =>
  refine .agg _ _ hl λj c hj=>?_
  simp only[ap2,aI]at hf;have:=hf c (aD hj);have hr:=h j c hj;cases c <;> first|cases this|skip
  cases hr with|d _ _ hr=>exact .d _ _ (Ms hO hr 30 this)
 |_=>cases hf
theorem Sh{w:World}{O1 O2 L1 L2:Nat->Prop}{σ1 σ2:Nat->Value}{L:List (Nat×List (List D))}(hO:∀b,Own O2 L2 σ2 b-> ¬Own O1 L1 σ1 b->b<w.heap.size-> ∃p∈L,Ef w b p){c:AV}{v:Value}(h:aG w O1 L1 σ1 c v)(hf:apV L c=true):aG w O2 L2 σ2 c v:=by
 cases c <;> try exact IP hO h hf
 cases h with|tuple cs vs hl h =>
  simp only[apV,aI]at hf;exact .tuple _ _ hl λj c hj=>IP hO (h j c hj) (hf c (aD hj))
def qJ(st:St)(σ:Nat->Value)(b:Nat):Prop:= ∃s e sz rows,find st.heap s=some (.row e sz rows true)/\qD rows=true/\home (σ s)=some b
section
variable {w:World} {F O:Nat->Prop} {σ:Nat->Value} {st st' :St}
theorem Br(hf' :∀s b,find st.heap s=some b->find st'.heap s=some b)(hh:Holds w F O st'.heap σ){v:AV}{x:D}(h:oa st v=some x){u:Value}(hr:aG w O (live st'.heap) σ v u):Rep w (λb=>Own O (live st'.heap) σ b/\ ¬qJ st σ b) x u:=by
 have kl:bw w w (Own O (live st'.heap) σ) (λb=>Own O (live st'.heap) σ b/\ ¬qJ st σ b):=bw.less λb h=>h.1
 cases v <;> try (refine Rep.mono kl (pc ?_ hr);exact h)
 rename_i s;simp only[oa]at h;split at h
 .rename_i e sz rows hf;split at h
  .rename_i ko;cases h;cases hr with|own _ hL =>
    obtain⟨xs,o1,o2,o3,o4,o5⟩:=hh.blk s _ (hf' _ _ hf);rcases o1.2 with ⟨e1,e2⟩|⟨g,cap,cur,e1,_,e3,e4,_,e6,e7⟩
    .obtain rfl:rows=[]:=List.eq_nil_of_length_eq_zero e2;rw[e1];exact .empty _ _ _
    .rw[e1];have hA:∀(i:Nat) r (j:Nat) d,rows[i]? =some r->r[j]? =some d->w.cell? ⟨g,0+i*sz+j,none⟩=some (xs.getD (i*sz+j) Go.undef)/\Rep w (λb=>Own O (live st'.heap) σ b/\ ¬qJ st σ b) d (xs.getD (i*sz+j) Go.undef):=by
      intro i r j d hi hj;obtain⟨u,hu,hd⟩:=o5 i r j d hi hj;have hx:xs.getD (i*sz+j) Go.undef=u:=by simp[List.getD,hu]
      rw[hx];refine⟨?_,hd.mono kl⟩;rw[<- e7,List.getElem?_take]at hu;split at hu
      .simp only[World.cell?,e3,Nat.zero_add];simpa using hu
      .cases hu
     exact .slice sz rows g 0 _ cap (λi j=>xs.getD (i*sz+j) Go.undef) rfl (λh=>h.2 ⟨s,e,sz,rows,hf,ko,by rw[e1];rfl⟩) (bI.1 e3).1 e4 o4 (λi r j d hi hj=>(hA i r j d hi hj).1) (λi r j d hi hj=>(hA i r j d hi hj).2)
  .cases h
 .cases h
theorem LX(hf' :∀s b,find st.heap s=some b->find st'.heap s=some b)(hh:Holds w F O st'.heap σ){v:AV}{x:D}(h:nZ st v=some x){u:Value}(hr:aG w O (live st'.heap) σ v u):Rep w (λb=>Own O (live st'.heap) σ b/\ ¬qJ st σ b) x u:=by
 cases v <;> try (refine Br hf' hh ?_ hr;exact h)
 simp only[nZ]at h;split at h
 .rename_i xs h1;split at h
  .rename_i h2;cases h;cases hr with|agg cs vs hl g =>
    obtain⟨l1,k1⟩:=cD h1;refine .agg _ _ (hl.trans l1.symm) (λd hd=>aI.1 h2 d hd) (λj d hj=>?_);obtain⟨c,hc,hd⟩:=k1 j d hj;exact Br hf' hh hd (g j c hc)
  .cases h
 .cases h
theorem KV(hf' :∀s b,find st.heap s=some b->find st'.heap s=some b)(hh:Holds w F O st'.heap σ){w' :World}(hb:∀b,b<w.heap.size->w'.heap[b]? =w.heap[b]?){b:Nat}(hl:qJ st σ b):∃p∈Aq st,Ef w' b p:=by
 obtain⟨s,e,sz,rows,hf,ko,xe⟩:=hl;refine⟨(sz,rows),NH ko hf,?_⟩;obtain⟨xs,o1,o2,o3,o4,o5⟩:=hh.blk s _ (hf' _ _ hf);rcases o1.2 with ⟨e1,e2⟩|⟨g,cap,cur,e1,_,e3,e4,_,e6,e7⟩
 .rw[e1]at xe;cases xe
 .rw[e1]at xe;cases xe;obtain⟨a,ha⟩:=o3.2 rfl;rw[e1]at ha;have kg:cap=rows.length:=by cases ha;rfl
  have hD:=(bI.1 e3).1;refine⟨o3.1,λr hr=>(o4 r hr).1,cur,e,(0,0),(hb g hD).trans e3,by rw[e6,kg],λi r j d hi hj=>?_⟩;obtain⟨u,hu,hd⟩:=o5 i r j d hi hj;have xj:d.fG=true:=by
   have:=aI.1 ko r (aD hi);exact aI.1 this d (aD hj)
  have:cur.getD (i*sz+j) Go.undef=u:=by
   rw[<- e7,List.getElem?_take]at hu;split at hu
   .rw[bM, <- bx,hu];rfl
   .cases hu
  exact⟨λ_=>False,by rw[this];exact hd.fG xj⟩
end
def rq(b:Bool)(p q:Prop):Prop:=match b with|true=>p|false=>q
theorem aj{b:Bool}{p q:Prop}(h1:b=true->p)(h2:b=false->q):rq b p q:=by
 cases b
 .exact h2 rfl
 .exact h1 rfl
abbrev KK:=AV->List (Nat×Blk)->Prop
def iZ(o:Option AV)(k:KK):Prop:=match o with|some v=>k v []|none=>False
def takeN(cx:Cx)(t:TypeId)(cs:List AV):Option AV:=match uQ cx t cs with|some v=>nU v|none=>none
def nR(cx:Cx)(st:St)(t:TypeId)(x:AV)(k:KK):Prop :=
 match x with
 | .ptr s off=>(match find st.heap s with|some (.box cells)=>iZ (takeN cx t (cells.drop off)) k|_=>False)
 | .dm s sz i off=>(match find st.heap s with
  |some (.row _ hZ rows _)=>(match Nat.beq hZ sz with|true=> ∃row,rows[i]? =some row/\iZ (takeN cx t ((row.drop off).map .d)) k|false=>False)
  |some (.eF _ hZ rows)=>(match Nat.beq hZ sz with|true=> ∃row,rows[i]? =some row/\iZ (takeN cx t (row.drop off)) k|false=>False)
  |some (.tail _ hZ rows)=>(match Nat.beq hZ sz with|true=> ∃row,rows[i]? =some row/\iZ (takeN cx t ((row.drop off).map .d)) k|false=>False)
  |_=>False)
 | .d (.ptr cells)=>iZ (takeN cx t (cells.map .d)) k
 |_=>False
def cB(cx:Cx)(t:TypeId):Option (TypeId×TI) :=
 match cx.ty t with
 |some ⟨_,_,.slice e,_⟩=>(match cx.ty e with|some ei=>some (e,ei)|none=>none)
 |_=>none
def arrayElem(cx:Cx)(t:TypeId):Option (Nat×TI) :=
 match cx.ty t with
 |some ⟨_,_,.array n e,_⟩=>(match cx.ty e with|some ei=>some (n,ei)|none=>none)
 |_=>none
def isStr(cx:Cx)(t:TypeId):Bool:=match cx.ty t with|some ⟨_,_,.str,_⟩=>true|_=>false
def eo(cx:Cx)(st:St)(t:TypeId)(x i:AV)(k:KK):Prop :=
 match i with
 | .d (.int _ n)=>(match cB cx t with
  |some (_,ei)=>(match x with
   | .d (.slice sz rows)=>(match Nat.beq sz ei.size with|true=>0<=n/\ ∃row,rows[n.toNat]? =some row/\k (.d (.ptr row)) []|false=>False)
   | .own s=>(match find st.heap s with
    |some (.row _ sz rows _)=>(match Nat.beq sz ei.size with|true=>0<=n/\n.toNat<rows.length/\k (.dm s sz n.toNat 0) []|false=>False)
    |some (.eF _ sz rows)=>(match Nat.beq sz ei.size with|true=>0<=n/\n.toNat<rows.length/\k (.dm s sz n.toNat 0) []|false=>False)
    |some (.tail _ sz rows)=>(match Nat.beq sz ei.size with|true=>0<=n/\n.toNat<rows.length/\k (.dm s sz n.toNat 0) []|false=>False)
    |_=>False)
   | .tl s xb i0=>(match find st.heap s with
    |some (.row _ sz rows _)=>(match Nat.beq sz ei.size,Nat.beq xb sz with|true,true=>0<=n/\i0+n.toNat<rows.length/\k (.dm s sz (i0+n.toNat) 0) []|_,_=>False)
    |_=>False)
   |_=>False)
  |none=>(match arrayElem cx t with
   |some (m,ei)=>0<=n/\n<m/\iZ (Ek x (n.toNat*ei.size)) k
   |none=>False))
 |_=>False
def qF(cx:Cx)(t:TypeId)(x i:AV)(k:KK):Prop :=
 match x,i,isStr cx t with
 | .d (.str s),.d (.int _ n),true=>0<=n/\ ∃c,s[n.toNat]? =some c/\k (.d (.int .u8 c.toNat)) []
 |_,_,_=>False
def vx(cx:Cx)(t:TypeId)(x:AV)(lo hi:Option AV)(k:KK):Prop :=
 match x with
 | .d (.str s)=>(match isStr cx t,bnd 0 lo,bnd s.length hi with
  |true,some l,some h=>0<=l/\l<=h/\h<=s.length/\k (.d (.str ((s.drop l.toNat).take (h.toNat-l.toNat)))) []
  |_,_,_=>False)
 | .d (.slice sz rows)=>(match cB cx t,bnd 0 lo,bnd rows.length hi with
  |some (_,ei),some l,some h=>(match Nat.beq sz ei.size with
   |true=>0<=l/\l<=h/\h<=rows.length/\k (.d (.slice sz ((rows.drop l.toNat).take (h.toNat-l.toNat)))) []
   |false=>False)
  |_,_,_=>False)
 |_=>False
def cz(cx:Cx)(st:St):List Operand->List TypeId->List AV
 |[],_=>[]
 |x::xs,t::ts=>ju cx t (st.ev cx x)::cz cx st xs ts
 |x::xs,[]=>st.ev cx x::cz cx st xs []
def callee:AV->Option (FuncId×List AV×List AV)
 | .d (.fn g a b)=>some (g,a.map .d,b.map .d)
 | .fn g a b=>some (g,a,b)
 |_=>none
def Na:AV->Bool
 | .d x=>x.fG
 |_=>false
def Fq:AV->Bool
 | .d x=>x.flat
 | .agg cs=>cs.all Na
 |_=>false
def KC:AV->Bool
 | .tuple vs=>vs.all Fq
 |v=>Fq v
def uj:List (Nat×Blk)->Bool
 |[]=>true
 |(s,_)::t=>(match Nat.blt s 100000 with|true=>uj t|false=>false)
theorem BW:∀{bs:List (Nat×Blk)},uj bs=true-> ∀s,live bs s->s<100000
 |[],_,s,h=>by simp[live,find]at h
 |(k,b)::t,hl,s,h=>by
  simp only[uj]at hl;split at hl
  .rename_i hb;by_cases e:k=s
   .subst e;exact Nat.lt_of_succ_le (bB hb)
   .refine BW hl s ?_;unfold live at h ⊢
    rwa [bl _ _ e]at h
  .cases hl
def Lf:AV->Option D
 | .d x=>some x
 |_=>none
def ia(cx:Cx)(st:St)(g:FuncId)(args:List AV)(k:KK):Prop :=
 match args with
 | .ptr s 0::rest=>(match find st.heap s,cA ir rest with
  |some (.box cs),some ds=>(match cA Lf cs with
   |some cells=> ∃v,FnB cx g cells ds v cells/\k v []
   |none=>False)
  |_,_=>False)
 |_=>False
def fnK(cx:Cx)(st:St)(f:AV)(args:List AV)(k:KK):Prop :=
 match callee f with
 |some (g,a,b)=>(match Nat.beq (cx.chg g) 4 with
  |true=>ia cx st g (a++args++b) k
  |false=>match cA ir (a++args++b)with
  |some ds=> ∃v bs,Fn cx g ds v bs/\(match uj bs with|true=>k v bs|false=>False)
  |none=>(match cA (gU st) (a++args++b)with
   |some ds=> ∃v,Fn cx g ds v []/\(KC v||Ap st (a++args++b) v)=true/\k v []
   |none=>False))
 |none=>False
def isMap(cx:Cx)(t:TypeId):Bool:=match cx.ty t with|some ⟨_,_,.map _ _,_⟩=>true|_=>false
def ln(cx:Cx)(st:St)(t:TypeId)(x:AV)(k:KK):Prop :=
 match x with
 | .d (.str s)=>(match isStr cx t with|true=>k (.d (.int .i64 s.length)) []|false=>False)
 | .d (.slice _ rows)=>(match cB cx t with|some _=>k (.d (.int .i64 rows.length)) []|none=>False)
 | .nil _=>(match cB cx t with|some _=>k (.d (.int .i64 0)) []|none=>False)
 | .own s=>(match cB cx t,find st.heap s with|some _,some (.row _ _ rows _)=>k (.d (.int .i64 rows.length)) []|some _,some (.eF _ _ rows)=>k (.d (.int .i64 rows.length)) []|some _,some (.tail _ _ rows)=>k (.d (.int .i64 rows.length)) []|_,_=>False)
 | .tl s _ i=>(match cB cx t,find st.heap s with|some _,some (.row _ _ rows _)=>k (.d (.int .i64 ((rows.length-i:Nat):Int))) []|_,_=>False)
 | .omap s=>(match isMap cx t,find st.heap s with|true,some (.cY m)=>k (.d (.int .i64 m.length)) []|true,some (.smap m)=>k (.d (.int .i64 m.length)) []|_,_=>False)
 | .d (.cY m)=>(match isMap cx t with|true=>k (.d (.int .i64 m.length)) []|false=>False)
 |_=>False
def tP(cx:Cx)(st:St)(c:Call)(k:KK):Prop :=
 match c.callee with
 | .builtin .len=>(match c.args.toList,c.argTypes.toList with|[x],[t]=>ln cx st t (st.ev cx x) k|_,_=>False)
 | .value f=>fnK cx st (st.ev cx f) (cz cx st c.args.toList c.argTypes.toList) k
 |_=>False
def AJ(cx:Cx)(st:St)(fs:List (Nat×TypeId))(p:Nat×Operand):Nat×AV:=(p.1,match fs[p.1]? with|some (_,ft)=>ju cx ft (st.ev cx p.2)|none=>st.ev cx p.2)
def oZ(cx:Cx)(st:St)(t:TypeId)(parts:List (Nat×Operand))(k:KK):Prop :=
 match cx.ty t with
 |some ⟨_,_,.struct fs,zero⟩=>(match Aa cx fs zero (parts.map (AJ cx st fs))with
  |some cs=>(match uu cs,fs.all (λp=>(cx.ty p.2).isSome)with|some cs,true=>k (.agg cs) []|_,_=>False)
  |none=>False)
 |_=>False
def pZ(st:St)(cx:Cx)(size:Nat):Nat->List (Nat×Operand)->Option (List (List D))
 |_,[]=>some []
 |i,(j,x)::rest=>(match Nat.beq i j with
  |true=>(match cellsOf (st.ev cx x)with
   |some cs=>(match cA mo cs with
    |some ds=>(match Nat.beq ds.length size,ds.all Ce,pZ st cx size (i+1) rest with|true,true,some rs=>some (ds::rs)|_,_,_=>none)
    |none=>none)
   |none=>none)
  |false=>none)
def qc(st:St)(cx:Cx)(size:Nat):Nat->List (Nat×Operand)->Option (List (List AV))
 |_,[]=>some []
 |i,(j,x)::rest=>(match Nat.beq i j with
  |true=>(match cellsOf (st.ev cx x)with
   |some xc=>(match uu xc with
    |some cs=>(match Nat.beq cs.length size,cs.all AV.one,qc st cx size (i+1) rest with|true,true,some rs=>some (cs::rs)|_,_,_=>none)
    |none=>none)
   |none=>none)
  |false=>none)
def bG{α:Type}(k:List UInt8):List (List UInt8×α)->Option α
 |[]=>none
 |(k',v)::t=>if k=k' then some v else bG k t
def cM{α:Type}(k:List UInt8)(v:α):List (List UInt8×α)->List (List UInt8×α)
 |[]=>[(k,v)]
 |(k',v')::t=>if k=k' then(k',v)::t else(k',v')::cM k v t
def D.dX:D->AV
 | .agg cs=> .agg (cs.map .d)
 |x=> .d x
def uU(i:TI):Option AV:=match i.kind.isAgg with|true=>some (.agg i.zero)|false=>(match i.zero with|[c]=>some c|_=>none)
def mapOf(st:St):AV->Option (List (List D×D))
 | .omap s=>(match find st.heap s with|some (.cY m)=>some m|_=>none)
 | .d (.cY m)=>some m
 |_=>none
def DR(cx:Cx)(kt:TypeId):D->Bool
 | .int k _=>(match cx.ty kt with|some ⟨_,_,.int k',_⟩=>decide (k' =k)|_=>false)
 | .str _=>isStr cx kt
 |_=>false
def qK(cx:Cx)(t:TypeId)(m:List (List D×D))(key:AV)(ok:Bool)(k:KK):Prop :=
 match key,cx.ty t with
 | .agg cs,some ⟨_,_,.map kt et,_⟩=>(match cA eI cs,cx.eqT kt,cx.ty et with
  |some kc,some ks,some ei=>(match uU ei,gZ ks kc with
   |some z,true=> ∃r,qI ks kc m=some r/\(match r with
    |some v=>(match ok with|true=>k (.tuple [v.dX,.d (.bool true)]) []|false=>k v.dX [])
    |none=>(match ok with|true=>k (.tuple [z,.d (.bool false)]) []|false=>k z []))
   |_,_=>False)
  |_,_,_=>False)
 | .d x,some ⟨_,_,.map kt et,_⟩=>(match DR cx kt x,cx.ty et with
  |true,some ei=>(match uU ei with
   |some z=> ∃r,qX x m=some r/\(match r with
    |some v=>(match ok with|true=>k (.tuple [v.dX,.d (.bool true)]) []|false=>k v.dX [])
    |none=>(match ok with|true=>k (.tuple [z,.d (.bool false)]) []|false=>k z []))
   |none=>False)
  |_,_=>False)
 |_,_=>False
def iI(cx:Cx)(st:St)(t:TypeId)(x key:AV)(ok:Bool)(k:KK):Prop :=
 match mapOf st x with
 |some m=>qK cx t m key ok k
 |none =>
 match x,key,cx.ty t with
 | .omap s,.d (.str b),some ⟨_,_,.map kt et,_⟩=>(match find st.heap s,isStr cx kt,cx.ty et with
  |some (.smap m),true,some ei=>(match uU ei with
   |some z=>(match bG b m with
    |some v=>(match ok with|true=>k (.tuple [v.dX,.d (.bool true)]) []|false=>k v.dX [])
    |none=>(match ok with|true=>k (.tuple [z,.d (.bool false)]) []|false=>k z []))
   |none=>False)
  |some (.dJ m),true,some ei=>(match uU ei,ok with
   |some z,false=> ∃r,bG b m=r/\k (r.getD z) []
   |_,_=>False)
  |_,_,_=>False)
 |_,_,_=>False
def AS:Operand->Operand->Bool
 | .tmp a,.tmp b=>Nat.beq a b
 |_,_=>false
theorem Oc{a b:Operand}(h:AS a b=true):a=b:=by
 cases a <;> cases b <;> first|(cases h;done)|(exact congrArg Operand.tmp (bd h))
def kC(cx:Cx)(d:Option Nat)(t:TypeId)(l c:AV)(fl:Bool)(k:KK):Prop :=
 match d,cB cx t,l,c with
 |some d,some (e,ei),.d (.int _ n),.d (.int _ m)=>(match cA eI ei.zero with
  |some z=>0<=n/\(n=m\/n=0)/\0<=m/\m.toNat*ei.bytes<=140737488355328/\m<=9223372036854775807/\(match Nat.ble 1 ei.size with|true=>k (.own d) [(d,.row e ei.size (List.replicate n.toNat z) fl)]|false=>False)
  |none=>False)
 |_,_,_,_=>False
def inL(x:Nat):List Nat->Bool
 |[]=>false
 |y::t=>(match Nat.beq x y with|true=>true|false=>inL x t)
def FD:Option AV->Bool
 |none=>true
 |some (.d (.int _ _))=>true
 |_=>false
def BY(cx:Cx)(t:TypeId):Option Bool :=
 match cx.ty t with
 |some ⟨_,_,.map kt _,_⟩=>(match cx.eqT kt with|some _=>some true|none=>(match isStr cx kt with|true=>some false|false=>some true))
 |_=>none
def Ns:Operand->Bool
 | .const (.pointer none)=>true
 | .const .nilFunc=>true
 | .const (.map none)=>true
 |_=>false
def Oy(op:BinOp)(x y:AV):Option (List UInt8×List UInt8) :=
 match op with
 | .add=>(match x,y with| .d (.str a),.d (.str b)=>some (a,b)|_,_=>none)
 |_=>none
def opK(cx:Cx)(d:Option Nat)(ty:TypeId)(st:St)(op:Op)(k:KK):Prop :=
 match op with
 | .move x=>iZ (nU (ju cx ty (st.ev cx x))) k
 | .assign x=>(match Ns x with|true=>k .undef []|false=>iZ (nU (ju cx ty (st.ev cx x))) k)
 | .pick c a b=>(match st.ev cx c with
  | .d (.bool t)=>rq t (iZ (nU (st.ev cx a)) k) (iZ (nU (st.ev cx b)) k)
  |_=>False)
 | .alloc e=>(match d,cx.ty e with|some d,some i=>k (.ptr d 0) [(d,.box i.zero)]|_,_=>False)
 | .box _ x=>(match d,cellsOf (st.ev cx x)with|some d,some cs=>(match uu cs with|some cs=>(match cs.all AV.one with|true=>k (.ptr d 0) [(d,.box cs)]|false=>False)|none=>False)|_,_=>False)
 | .build t parts=>oZ cx st t parts.toList k
 | .buildSlice t len parts=>(match d,cB cx t with
  |some d,some (e,ei)=>(match pZ st cx ei.size 0 parts.toList with
   |some rows=>(match Nat.beq rows.length len,Nat.ble (len*ei.size) 16777216,Nat.ble 1 ei.size,inL d cx.bld with|true,true,true,false=>k (.own d) [(d,.row e ei.size rows (inL (d+100000) cx.bld))]|true,true,true,true=>k (.d (.slice ei.size rows)) []|_,_,_,_=>False)
   |none=>(match qc st cx ei.size 0 parts.toList with
    |some rows=>(match Nat.beq rows.length len,Nat.ble (len*ei.size) 16777216,Nat.ble 1 ei.size with|true,true,true=>k (.own d) [(d,.eF e ei.size rows)]|_,_,_=>False)
    |none=>False))
  |_,_=>False)
 | .load t x=>nR cx st t (st.ev cx x) k
 | .nilCheck x=>(match st.ev cx x with| .ptr s o=>k (.ptr s o) []| .dm s z i o=>k (.dm s z i o) []| .d (.ptr cs)=>k (.d (.ptr cs)) []| .fn f a b=>k (.fn f a b) []| .d (.fn f a b)=>k (.d (.fn f a b)) []|_=>False)
 | .binOp op t x y _=>(match Oy op (st.ev cx x) (st.ev cx y)with
  |some (a,b)=>a.length+b.length<=9223372036854775807/\k (.d (.str (a++b))) []
  |none=>iZ (Kc cx op t (st.ev cx x) (st.ev cx y)) k)
 | .unOp op _ x=>iZ (unA op (st.ev cx x)) k
 | .convert src dst x=>iZ (Ko cx src dst (st.ev cx x)) k
 | .makeFunc fn first hG=>(match fn with| .func f=>k (.fn f (first.toList.map (st.ev cx)) (hG.toList.map (st.ev cx))) []|_=>False)
 | .slice t x lo hi mx=>(match mx with|none=>vx cx t (st.ev cx x) (lo.map (st.ev cx)) (hi.map (st.ev cx)) k|some _=>False)
 | .fieldAddr s x f=>iZ (uc cx s (st.ev cx x) f) k
 | .field t x f=>iZ (match Fj cx t (st.ev cx x) f with|some v=>nU v|none=>none) k
 | .indexAddr t x i=>eo cx st t (st.ev cx x) (st.ev cx i) k
 | .index t x i=>qF cx t (st.ev cx x) (st.ev cx i) k
 | .extract x i=>iZ (match yP (st.ev cx x) i with|some v=>nU v|none=>none) k
 | .call c=>tP cx st c k
 | .makeMap t r=>(match d,FD (r.map (st.ev cx)),BY cx t with|some d,true,some true=>k (.omap d) [(d,.cY [])]|some d,true,some false=>k (.omap d) [(d,.smap [])]|_,_,_=>False)
 | .makeSlice t l c=>kC cx d t (st.ev cx l) (st.ev cx c) (AS l c) k
 | .lookup t x i ok=>iI cx st t (st.ev cx x) (st.ev cx i) ok k
 |_=>False
section
variable {cx:Cx} {st:St} {k:KK}
theorem rP{o:Option AV}(h:iZ o k):∃v,o=some v/\k v []:=by
 cases o with
 |none=>exact h.elim
 |some v=>exact⟨v,rfl,h⟩
theorem cW{o:Oper}{v:AV}(s:(Operand->Value)->Sem Value)(he:∀ρ,execOp ρ o=(do pure (.value (<- s ρ)):Sem Next))
 (h:∀(E:Env) st' σ a w,st.le st' ->bN cx E st' σ a w-> ∃z,(s a.eval).run cx.P w= .ok z w/\aG w E.O (live st'.heap) σ v z):cV cx o st v [] :=
 cV.value λE st' σ a w hle hs=>by
  obtain⟨z,hz,hr⟩:=h E st' σ a w hle hs;exact⟨z,by rw[he];simp[hz],hr⟩
theorem oJ{t:TypeId}{cs:List AV}{v:AV}(h:takeN cx t cs=some v):uQ cx t cs=some v:=by
 unfold takeN at h;split at h
 .rename_i r hr;rw[mZ h];exact hr
 .cases h
theorem JC{o:Oper}{x:Operand}(ho:o.op= .move x\/o.op= .assign x)(h:iZ (nU (ju cx o.type (st.ev cx x))) k):∃v bs,cV cx o st v bs/\k v bs:=by
 obtain⟨v,hv,hk⟩:=rP h;obtain rfl:=mZ hv;refine⟨_,[],cV.value λE st' σ a w hle hs=>?_,hk⟩;refine⟨a.eval x,?_,jv (hs.ev hle x)⟩;rcases ho with ho|ho <;> simp[execOp,ho]
theorem NU{o:Oper}{x:Operand}(ho:o.op= .assign x)(h:opK cx o.dst o.type st (.assign x) k):∃v bs,cV cx o st v bs/\k v bs:=by
 simp only[opK]at h;split at h
 .exact⟨_,[],cV.value λE st' σ a w hle hs=>⟨a.eval x,by simp[execOp,ho],.undef _⟩,h⟩
 .exact JC (.inr ho) h
theorem Tf{o:Oper}{c x y:Operand}(ho:o.op= .pick c x y)(h:opK cx o.dst o.type st (.pick c x y) k):∃v bs,cV cx o st v bs/\k v bs:=by
 simp only[opK]at h;split at h
 .rename_i t ht;cases t with
  |true =>
   obtain⟨v,hv,hk⟩:=rP h;obtain rfl:=mZ hv;refine⟨_,[],cV.value λE st' σ a w hle hs=>?_,hk⟩;have hc:=hs.ev hle c;rw[ht]at hc;exact⟨a.eval x,by simp[execOp,ho,hc.bool,asBool],hs.ev hle x⟩
  |false =>
   obtain⟨v,hv,hk⟩:=rP h;obtain rfl:=mZ hv;refine⟨_,[],cV.value λE st' σ a w hle hs=>?_,hk⟩;have hc:=hs.ev hle c;rw[ht]at hc;exact⟨a.eval y,by simp[execOp,ho,hc.bool,asBool],hs.ev hle y⟩
 .exact h.elim
theorem kS{o:Oper}{r:Option AV}(s:(Operand->Value)->Sem Value)(he:∀ρ,execOp ρ o=(do pure (.value (<- s ρ)):Sem Next))
 (hh:∀v,r=some v-> ∀(E:Env) st' σ a w,st.le st' ->bN cx E st' σ a w-> ∃z,(s a.eval).run cx.P w= .ok z w/\aG w E.O (live st'.heap) σ v z) (h:iZ r k):∃v bs,cV cx o st v bs/\k v bs:=by
 obtain⟨v,hv,hk⟩:=rP h;exact⟨v,[],cW s he (hh v hv),hk⟩
theorem Te(hT:bD cx){o:Oper}{t:TypeId}{x:Operand}(ho:o.op= .load t x)(h:nR cx st t (st.ev cx x) k):∃v bs,cV cx o st v bs/\k v bs:=by
 have he:∀ρ,execOp ρ o=(do pure (.value (<- Instr.loadAt t (ρ x))):Sem Next):=λρ=>by simp only[execOp,ho]
 unfold nR at h;split at h
 .rename_i s off hx;split at h
  .rename_i cells hf;refine kS _ he (λv hv E st' σ a w hle hs=>?_) h;have hr:=hs.ev hle x;rw[hx]at hr;obtain⟨b',cur,tt,e1,e2,e3,e4,e5⟩:=hs.holds.blk s _ (hle.heap s _ hf);generalize a.eval x=u at hr;cases hr with|ptr _ _ b hL hσ =>
    rw[hσ]at e1;cases e1;refine mA hT (oJ hv) (λj=>cur.getD (off+j) Go.undef) (λj c hj=>?_) (λj c hj=>?_)
    .rw[List.getElem?_drop]at hj;have hD:off+j<cur.size:=by have:=(aB.1 hj).1;omega
     simp[World.cell?,e3,hD]
    .rw[List.getElem?_drop]at hj;exact(e5 _ c hj).2
  .exact h.elim
 .rename_i s sz i off hx;split at h
  .rename_i te hZ rows fl hf;split at h
   .rename_i hM;obtain rfl:hZ =sz:=bd hM;obtain⟨row,hI,h⟩:=h;refine kS _ he (λv hv E st' σ a w hle hs=>?_) h;have hr:=hs.ev hle x;rw[hx]at hr;obtain⟨xs,o1,o2,o3,o4,o5⟩:=hs.holds.blk s _ (hle.heap s _ hf);generalize a.eval x=u at hr;cases hr with|dm _ _ _ _ b n cap o0 hL hσ =>
     rcases o1.2 with ⟨e1,_⟩|⟨g,kG,cur,e1,_,e3,e4,_,e6,e7⟩
     .rw[hσ]at e1;cases e1
     .rw[hσ]at e1;cases e1;have hA:∀(j:Nat) c,((row.drop off).map AV.d)[j]? =some c-> ∃d,c= .d d/\row[off+j]? =some d:=by
       intro j c hj;rw[bc,List.getElem?_drop]at hj;cases hd:row[off+j]? with
       |none=>rw[hd]at hj;cases hj
       |some d=>rw[hd]at hj;cases hj;exact⟨d,rfl,rfl⟩
      refine mA hT (oJ hv) (λj=>xs.getD (i*hZ +(off+j)) Go.undef) (λj c hj=>?_) (λj c hj=>?_)
      .obtain⟨d,rfl,hd⟩:=hA j c hj;obtain⟨u,hu,_⟩:=o5 i row _ d hI hd;rw[show xs.getD (i*hZ +(off+j)) Go.undef=u by simp[List.getD,hu]];rw[<- e7,List.getElem?_take]at hu;split at hu
       .simp only[World.cell?,e3,Nat.add_assoc];simpa using hu
       .cases hu
      .obtain⟨d,rfl,hd⟩:=hA j c hj;obtain⟨u,hu,hr⟩:=o5 i row _ d hI hd;rw[show xs.getD (i*hZ +(off+j)) Go.undef=u by simp[List.getD,hu]];exact .d _ _ hr
   .exact h.elim
  .rename_i te hZ rows hf;split at h
   .rename_i hM;obtain rfl:hZ =sz:=bd hM;obtain⟨row,hI,h⟩:=h;refine kS _ he (λv hv E st' σ a w hle hs=>?_) h;have hr:=hs.ev hle x;rw[hx]at hr;obtain⟨g,cur,tt,e1,e2,e3,e4,e5⟩:=hs.holds.blk s _ (hle.heap s _ hf);generalize a.eval x=u at hr;cases hr with|dm _ _ _ _ b n cap o0 hL hσ =>
     rw[hσ]at e1;cases e1;refine mA hT (oJ hv) (λj=>cur.getD (i*hZ +(off+j)) Go.undef) (λj c hj=>?_) (λj c hj=>?_)
     .rw[List.getElem?_drop]at hj;have hD:=(e5 i row _ c hI hj).1.2;simp[World.cell?,e3,Nat.add_assoc,hD]
     .rw[List.getElem?_drop]at hj;exact(e5 i row _ c hI hj).2
   .exact h.elim
  .rename_i te hZ rows hf;split at h
   .rename_i hM;obtain rfl:hZ =sz:=bd hM;obtain⟨row,hI,h⟩:=h;refine kS _ he (λv hv E st' σ a w hle hs=>?_) h;have hr:=hs.ev hle x;rw[hx]at hr;obtain⟨⟨aa,kG,e1,⟨_,hc,_⟩,_,h4⟩,_⟩:=hs.holds.blk s _ (hle.heap s _ hf);generalize a.eval x=u at hr;cases hr with|dm _ _ _ _ b n cap o0 hL hσ =>
     rw[hσ]at e1;cases e1;rcases h4 with ⟨h4,_⟩|⟨g,o1,cur,h4,e3,_,e5⟩
     .cases h4
     cases h4;have hA:∀(j:Nat) c,((row.drop off).map AV.d)[j]? =some c-> ∃d,c= .d d/\row[off+j]? =some d:=by
      intro j c hj;rw[bc,List.getElem?_drop]at hj;cases hd:row[off+j]? with
      |none=>rw[hd]at hj;cases hj
      |some d=>rw[hd]at hj;cases hj;exact⟨d,rfl,rfl⟩
     refine mA hT (oJ hv) (λj=>cur.getD (o0+(i*hZ +(off+j))) Go.undef) (λj c hj=>?_) (λj c hj=>?_)
     .obtain⟨d,rfl,hd⟩:=hA j c hj;obtain⟨u,hu,_⟩:=e5 i row _ d hI hd;have hD:=(bI.1 hu).1;simp[World.cell?,e3,Nat.add_assoc,hD]
     .obtain⟨d,rfl,hd⟩:=hA j c hj;obtain⟨u,hu,hr⟩:=e5 i row _ d hI hd;rw[show cur.getD (o0+(i*hZ +(off+j))) Go.undef=u by rw[bM,hu];rfl];exact .d _ _ hr
   .exact h.elim
  .exact h.elim
 .rename_i cells hx;refine kS _ he (λv hv E st' σ a w hle hs=>?_) h;have hr:=hs.ev hle x;rw[hx]at hr;generalize a.eval x=u at hr;cases hr with|d _ _ hr=>cases hr with|ptr _ B off us hO hB kY h1 h2 =>
   refine mA hT (oJ hv) us (λj c hj=>?_) (λj c hj=>?_)
   .rw[bc]at hj;cases hd:cells[j]? with
    |none=>rw[hd]at hj;cases hj
    |some d=>exact h1 j d hd
   .rw[bc]at hj;cases hd:cells[j]? with
    |none=>rw[hd]at hj;cases hj
    |some d=>rw[hd]at hj;cases hj;exact .d _ _ (h2 j d hd)
 .exact h.elim
theorem cC{t e:TypeId}{ei:TI}(h:cB cx t=some (e,ei)):∃ti,cx.ty t=some ti/\ti.kind= .slice e/\cx.ty e=some ei:=by
 unfold cB at h;split at h
 .rename_i ht;split at h
  .rename_i he;cases h;exact⟨_,ht,rfl,he⟩
  .cases h
 .cases h
theorem vh{t:TypeId}{n:Nat}{ei:TI}(h:arrayElem cx t=some (n,ei)):∃ti e,cx.ty t=some ti/\ti.kind= .array n e/\cx.ty e=some ei:=by
 unfold arrayElem at h;split at h
 .rename_i ht;split at h
  .rename_i he;cases h;exact⟨_,_,ht,rfl,he⟩
  .cases h
 .cases h
theorem jH{t:TypeId}(h:isStr cx t=true):∃ti,cx.ty t=some ti/\ti.kind= .str:=by
 unfold isStr at h;split at h
 .rename_i ht;exact⟨_,ht,rfl⟩
 .cases h
theorem FY(hT:bD cx){o:Oper}{t:TypeId}{x i:Operand}(ho:o.op= .indexAddr t x i)(h:eo cx st t (st.ev cx x) (st.ev cx i) k):∃v bs,cV cx o st v bs/\k v bs:=by
 have he:∀ρ,execOp ρ o=(do pure (.value (<- Instr.indexAt t (ρ x) (ρ i))):Sem Next):=λρ=>by simp only[execOp,ho]
 unfold eo at h;split at h
 .rename_i ki n hi;split at h
  .rename_i e ei kQ;obtain⟨ti,ht,hk,hK⟩:=cC kQ;split at h
   .rename_i sz rows hx;split at h
    .rename_i hM;obtain rfl:sz=ei.size:=bd hM;obtain⟨h0,row,hI,hW⟩:=h;refine⟨_,[],cW _ he λE st' σ a w hle hs=>?_,hW⟩;have hr:=hs.ev hle x;have hn:=hs.ev hle i;rw[hx]at hr;rw[hi]at hn;rw[hn.int];exact yX hT ht hk hK hr h0 hI
    .exact h.elim
   .rename_i s hx;split at h
    .rename_i te sz rows fl hf;split at h
     .rename_i hM;obtain rfl:sz=ei.size:=bd hM;obtain⟨h0,hD,hW⟩:=h;refine⟨_,[],cW _ he λE st' σ a w hle hs=>?_,hW⟩;have hr:=hs.ev hle x;have hn:=hs.ev hle i;rw[hx]at hr;rw[hi]at hn;rw[hn.int];obtain⟨xs,o1,_⟩:=hs.holds.blk s _ (hle.heap s _ hf);exact Dv (F:=E.F) hT ht hk hK hr o1 h0 hD
     .exact h.elim
    .rename_i te sz rows hf;split at h
     .rename_i hM;obtain rfl:sz=ei.size:=bd hM;obtain⟨h0,hD,hW⟩:=h;refine⟨_,[],cW _ he λE st' σ a w hle hs=>?_,hW⟩;have hr:=hs.ev hle x;have hn:=hs.ev hle i;rw[hx]at hr;rw[hi]at hn;rw[hn.int];obtain⟨g,cur,tt,e1,_⟩:=hs.holds.blk s _ (hle.heap s _ hf);obtain⟨_,_,_,_,t2,t3,_⟩:=hT _ _ ht;rw[hk]at t3;obtain rfl:=bZ t3;obtain⟨_,r2⟩:=dH (w:=w) hT hK;generalize a.eval x=u at hr;cases hr with|own _ hL =>
       have ku :n<rows.length:=by omega
       refine⟨.pointer (some ⟨g,0+(n.toNat*ei.size+0),none⟩),?_,.dm s _ _ _ g _ _ 0 hL e1⟩;rw[e1];simp[Instr.indexAt,asIntOf,run_underlying t2,h0,ku,r2,de]
     .exact h.elim
    .rename_i te sz rows hf;split at h
     .rename_i hM;obtain rfl:sz=ei.size:=bd hM;obtain⟨h0,hD,hW⟩:=h;refine⟨_,[],cW _ he λE st' σ a w hle hs=>?_,hW⟩;have hr:=hs.ev hle x;have hn:=hs.ev hle i;rw[hx]at hr;rw[hi]at hn;rw[hn.int];obtain⟨⟨aa,cap,e1,⟨_,hc,_⟩,_,h4⟩,_⟩:=hs.holds.blk s _ (hle.heap s _ hf);obtain⟨_,_,_,_,t2,t3,_⟩:=hT _ _ ht;rw[hk]at t3;obtain rfl:=bZ t3;obtain⟨_,r2⟩:=dH (w:=w) hT hK;rcases h4 with ⟨_,hz⟩|⟨g,off,cur,rfl,_⟩
      .omega
      generalize a.eval x=u at hr
      cases hr with|own _ hL =>
       have ku :n<rows.length:=by omega
       refine⟨.pointer (some ⟨g,off+(n.toNat*ei.size+0),none⟩),?_,.dm s _ _ _ g _ _ off hL e1⟩;rw[e1];simp[Instr.indexAt,asIntOf,run_underlying t2,h0,ku,r2,de]
     .exact h.elim
    .exact h.elim
   .rename_i s xb i0 hx;split at h
    .rename_i te sz rows fl hf;split at h
     .rename_i hM xA;obtain rfl:xb=sz:=bd xA;obtain rfl:xb=ei.size:=bd hM;obtain⟨h0,hD,hW⟩:=h;refine⟨_,[],cW _ he λE st' σ a w hle hs=>?_,hW⟩;have hr:=hs.ev hle x;have hn:=hs.ev hle i;rw[hx]at hr;rw[hi]at hn;rw[hn.int];obtain⟨xs,o1,_⟩:=hs.holds.blk s _ (hle.heap s _ hf);obtain⟨_,_,_,_,t2,t3,_⟩:=hT _ _ ht;rw[hk]at t3;obtain rfl:=bZ t3;obtain⟨_,r2⟩:=dH (w:=w) hT hK;generalize a.eval x=u at hr;cases hr with|tl _ _ _ g m cap o0 hL e1 =>
       rcases o1.2 with ⟨e2,hz⟩|⟨g',kG,cur,e2,_⟩
       .rw[e1]at e2;cases e2
       .rw[e1]at e2;cases e2;have ku :n<((rows.length-i0:Nat):Int):=by omega
        have ye:=aG.dm (w:=w) (O:=E.O) (L:=live st'.heap) (σ:=σ) s ei.size (i0+n.toNat) 0 g _ _ 0 hL e1;refine⟨_,?_,ye⟩;simp[Instr.indexAt,asIntOf,run_underlying t2,h0,ku,r2,de,Nat.add_mul]
     .exact h.elim
    .exact h.elim
   .exact h.elim
  .split at h
   .rename_i m ei xF;obtain⟨ti,e,ht,hk,hK⟩:=vh xF;obtain⟨h0,h1,h⟩:=h;refine kS _ he (λv hv E st' σ a w hle hs=>?_) h;have hn:=hs.ev hle i;rw[hi]at hn;rw[hn.int];exact Am hT ht hk hK (hs.ev hle x) h0 h1 hv
   .exact h.elim
 .exact h.elim
theorem QK(hT:bD cx){o:Oper}{t:TypeId}{x i:Operand}(ho:o.op= .index t x i)(h:qF cx t (st.ev cx x) (st.ev cx i) k):∃v bs,cV cx o st v bs/\k v bs:=by
 have he:∀ρ,execOp ρ o=(do pure (.value (<- Instr.index t (ρ x) (ρ i))):Sem Next):=λρ=>by simp only[execOp,ho]
 unfold qF at h;split at h
 .rename_i s ki n hx hi hs;obtain⟨ti,ht,hk⟩:=jH hs;obtain⟨h0,c,hc,hW⟩:=h;refine⟨_,[],cW _ he λE st' σ a w hle hs=>?_,hW⟩;have hr:=hs.ev hle x;have hn:=hs.ev hle i;rw[hx]at hr;rw[hi]at hn;rw[hn.int];exact Np hT ht hk hr h0 hc
 .exact h.elim
theorem zM{E:Env}{st' :St}{σ:Nat->Value}{a:Act}{w:World}(hle:st.le st')(hs:bN cx E st' σ a w)(lo:Option Operand){kd:Nat}{l:Int}(h:bnd kd (lo.map (st.ev cx))=some l) :
 ((lo.map a.eval)=none/\l=kd)\/ ∃k,lo.map a.eval=some (.int k l) :=
 Sl (λx hx=>by cases lo with
  |none=>cases hx
  |some y=>cases hx;exact⟨_,rfl,hs.ev hle y⟩) (λhn=>by cases lo with
  |none=>rfl
  |some y=>cases hn) h
theorem ok_slice(hT:bD cx){o:Oper}{t:TypeId}{x:Operand}{lo hi:Option Operand}(ho:o.op= .slice t x lo hi none)(h:vx cx t (st.ev cx x) (lo.map (st.ev cx)) (hi.map (st.ev cx)) k):∃v bs,cV cx o st v bs/\k v bs:=by
 have he:∀ρ,execOp ρ o=(do pure (.value (<- Instr.sliceAt t (ρ x) (lo.map ρ) (hi.map ρ) none)):Sem Next):=λρ=>by simp only[execOp,ho,Option.map_none]
 unfold vx at h;split at h
 .rename_i s hx;split at h
  .rename_i l hh hs hl hr;obtain⟨ti,ht,hk⟩:=jH hs;obtain⟨h0,h1,h2,hW⟩:=h;refine⟨_,[],cW _ he λE st' σ a w hle hs=>?_,hW⟩;have kZ :=hs.ev hle x;rw[hx]at kZ;exact Ss hT ht hk kZ (zM hle hs lo hl) (zM hle hs hi hr) h0 h1 h2
  .exact h.elim
 .rename_i sz rows hx;split at h
  .rename_i e ei l hh hs hl hr;obtain⟨ti,ht,hk,hK⟩:=cC hs;split at h
   .rename_i hM;obtain rfl:sz=ei.size:=bd hM;obtain⟨h0,h1,h2,hW⟩:=h;refine⟨_,[],cW _ he λE st' σ a w hle hs=>?_,hW⟩;have kZ :=hs.ev hle x;rw[hx]at kZ;exact Kq hT ht hk hK kZ (zM hle hs lo hl) (zM hle hs hi hr) h0 h1 h2
   .exact h.elim
  .exact h.elim
 .exact h.elim
end
section
variable {cx:Cx} {st:St} {k:KK}
theorem Ii{o:Oper}{x:Operand}(ho:o.op= .nilCheck x)(h:opK cx o.dst o.type st (.nilCheck x) k):∃v bs,cV cx o st v bs/\k v bs:=by
 simp only[opK]at h;split at h
 .rename_i hx;refine⟨_,[],cV.value λE st' σ a w hle hs=>?_,h⟩;have hr:=hs.ev hle x;rw[hx]at hr;refine⟨a.eval x,?_,hr⟩;generalize hu:a.eval x=u at hr;cases hr;simp[execOp,ho,hu]
 .rename_i hx;refine⟨_,[],cV.value λE st' σ a w hle hs=>?_,h⟩;have hr:=hs.ev hle x;rw[hx]at hr;refine⟨a.eval x,?_,hr⟩;generalize hu:a.eval x=u at hr;cases hr;simp[execOp,ho,hu]
 .rename_i hx;refine⟨_,[],cV.value λE st' σ a w hle hs=>?_,h⟩;have hr:=hs.ev hle x;rw[hx]at hr;refine⟨a.eval x,?_,hr⟩;generalize hu:a.eval x=u at hr;cases hr with|d _ _ hr=>cases hr;simp[execOp,ho,hu]
 .rename_i hx;refine⟨_,[],cV.value λE st' σ a w hle hs=>?_,h⟩;have hr:=hs.ev hle x;rw[hx]at hr;refine⟨a.eval x,?_,hr⟩;generalize hu:a.eval x=u at hr;cases hr;simp[execOp,ho,hu]
 .rename_i hx;refine⟨_,[],cV.value λE st' σ a w hle hs=>?_,h⟩;have hr:=hs.ev hle x;rw[hx]at hr;refine⟨a.eval x,?_,hr⟩;generalize hu:a.eval x=u at hr;cases hr with|d _ _ hr=>cases hr;simp[execOp,ho,hu]
 .exact h.elim
theorem gO{w:World}{O L:Nat->Prop}{σ:Nat->Value}{c:AV}{v:Value}(h:jA c v):(c.one=true\/c= .undef)/\aG w O L σ c v:=by
 unfold jA at h;split at h <;> first|exact h.elim|skip
 .subst h;exact⟨.inl rfl,.mkInt _ _⟩
 .subst h;exact⟨.inl rfl,.fL _⟩
 .subst h;exact⟨.inl rfl,.d _ _ (.str _ _ (by simp))⟩
 .subst h;exact⟨.inl rfl,.nil _⟩
 .subst h;exact⟨.inl rfl,.d _ _ .iy⟩
 .exact⟨.inr rfl,.undef _⟩
theorem EH{w:World}{F O L L' :Nat->Prop}{σ σ' :Nat->Value}{d:Nat}{cs:List AV}{vs:Array Value}{t:TypeId}(hs:∀s,L s->L' s/\σ' s=σ s)
 (hk:bw w (w.alloc (.cells vs t)) (Own O L σ) (Own O L' σ')) (hσ:σ' d= .pointer (some ⟨w.heap.size,0,none⟩)) (hF:F w.heap.size) (hl:vs.size=cs.length) (h:∀j c,cs[j]? =some c->(c.one=true\/c= .undef)/\aG w O L σ c (vs.getD j Go.undef)) :
 cZ (w.alloc (.cells vs t)) F O L' σ' d (.box cs) :=
 ⟨w.heap.size,vs,t,hσ,hF,heap_alloc_new w _,hl,λj c hc=>⟨(h j c hc).1,(h j c hc).2.mono hk hs⟩⟩
theorem QI(hT:bD cx){o:Oper}{e:TypeId}(ho:o.op= .alloc e)(h:opK cx o.dst o.type st (.alloc e) k):∃v bs,cV cx o st v bs/\k v bs:=by
 simp only[opK]at h;split at h
 .rename_i d i hd hi;refine⟨_,_,cV.new (by rw[ho];rfl) (by assumption) λE st' σ a w hle hs=>?_,h⟩;obtain⟨info,desc,z,i1,i2,i3,i4,i5,i6,i7,i8,i9,i10⟩:=hT _ _ hi;refine⟨w.alloc (.cells z.cells e),.pointer (some ⟨w.heap.size,0,none⟩),.pointer (some ⟨w.heap.size,0,none⟩),?_,jl _ _,λg hg=>by cases hg;exact Nat.le_refl _,λσ' e1 hF hk kp hl=>⟨?_,?_⟩⟩
  .simp[execOp,ho,Instr.alloc,zeroValue,typeInfo,i1,i6,newVar,newRow,newObj,Sem.run]
  .exact EH kp hk e1 (hF _ (Nat.le_refl _)) i7 λj c hc=>gO (i9 j c hc)
  .exact .ptr _ _ _ hl e1
 .exact h.elim
theorem Un(hT:bD cx){o:Oper}{e:TypeId}{x:Operand}(ho:o.op= .box e x)(h:opK cx o.dst o.type st (.box e x) k):∃v bs,cV cx o st v bs/\k v bs:=by
 simp only[opK]at h;split at h
 .rename_i d xc hd hc;split at h
  .rename_i cs hn;obtain rfl:=qN hn;split at h
   .rename_i kY;refine⟨_,_,cV.new (by rw[ho];rfl) (by assumption) λE st' σ a w hle hs=>?_,h⟩;obtain⟨k1,k2⟩:=jE hc hs.one (hs.ev hle x);refine⟨w.alloc (.cells (a.eval x).cells e),.pointer (some ⟨w.heap.size,0,none⟩),.pointer (some ⟨w.heap.size,0,none⟩),?_,jl _ _,λg hg=>by cases hg;exact Nat.le_refl _,λσ' e1 hF hk kp hl=>⟨?_,?_⟩⟩
    .simp[execOp,ho,Instr.box,newVar,newRow,newObj,Sem.run]
    .exact EH kp hk e1 (hF _ (Nat.le_refl _)) k1 λj c hc=>⟨.inl (aI.1 kY c (aD hc)),k2 j c hc⟩
    .exact .ptr _ _ _ hl e1
   .exact h.elim
  .exact h.elim
 .exact h.elim
theorem Ia(hT:bD cx)(w:World)(g:List Field)(h:∀hR∈g,(cx.ty hR.type).isSome=true) :
 (g.mapM (m:=Sem) λf=>Prod.mk f.offset <$> Go.sizeOf f.type).run cx.P w= .ok (g.map λf=>(f.offset,match cx.ty f.type with|some i=>i.size|none=>0)) w:=by
 induction g with
 |nil=>simp[List.mapM_nil]
 |cons f t ih =>
  have hf:=h f (by simp);cases hi:cx.ty f.type with
  |none=>rw[hi]at hf;cases hf
  |some i =>
   have r2:=(dH (w:=w) hT hi).2;have ih:=ih λx hx=>h x (by simp[hx])
   simp[List.mapM_cons,r2,ih,hi]
theorem QJ(hT:bD cx){o:Oper}{t:TypeId}{parts:Array (Nat×Operand)}(ho:o.op= .build t parts)(h:oZ cx st t parts.toList k):∃v bs,cV cx o st v bs/\k v bs:=by
 unfold oZ at h;split at h
 .rename_i sz kU fs zero ht
  split at h
  .rename_i xc hf;split at h
   .rename_i cs hn xg;obtain rfl:=qN hn;refine⟨_,[],cV.value λE st' σ a w hle hs=>?_,h⟩;obtain⟨info,desc,z,i1,i2,i3,i4,i5,i6,i7,i8,i9,i10⟩:=hT _ _ ht;obtain⟨g,rfl,rfl⟩:=pF i3;have hJ:=Ia hT w g.toList (λhR hf=>aI.1 xg (hR.offset,hR.type) (List.mem_map.2 ⟨hR,hf,rfl⟩));have kX :(g.mapM (m:=Sem) λf=>Prod.mk f.offset <$> Go.sizeOf f.type).run cx.P w= .ok (g.toList.map λf=>(f.offset,match cx.ty f.type with|some i=>i.size|none=>0)).toArray w:=by
     rw[Array.mapM_eq_mapM_toList];simp[hJ]
    obtain⟨kT,f1,f2,f3⟩:=MU (w:=w) (O:=E.O) (L:=live st'.heap) (σ:=σ) hT hs.one (places:=(g.toList.map λf=>(f.offset,match cx.ty f.type with|some i=>i.size|none=>0)).toArray)
     (λi hR fi hg xm=>by
      have:g.toList[i]? =some hR:=by rw[bx];exact hg
      simp[hg,xm])
     _ (parts.toList.map λp=>(p.1,a.eval p.2)) _ _ z.cells hf (by simp) (λj p hj=>by
      rw[bc]at hj;cases hp:parts.toList[j]? with
      |none=>rw[hp]at hj;cases hj
      |some q =>
       rw[hp]at hj;cases hj;refine⟨a.eval q.2,by rw[bc,hp];rfl,?_⟩;dsimp only[AJ];split
       .exact jv (hs.ev hle q.2)
       .exact hs.ev hle q.2) i7 (λj c hc=>(gO (i9 j c hc)).2)
    refine⟨.agg kT,?_,.agg _ _ f2 f3⟩;have kP:(parts.map λ(x:Nat×Operand)=>(x.1,a.eval x.2)).toList=parts.toList.map λp=>(p.1,a.eval p.2):=by simp
    simp only[List.getElem?_toArray,bc,bx]at f1;simp only[execOp,ho,Instr.build];simp[zeroValue,typeInfo,i1,i6,run_underlying i2,kX,kP,f1]
   .exact h.elim
  .exact h.elim
 .exact h.elim
theorem Ih{o:Oper}{fn:Go.Fn}{first hG:Array Operand}(ho:o.op= .makeFunc fn first hG)(h:opK cx o.dst o.type st (.makeFunc fn first hG) k):∃v bs,cV cx o st v bs/\k v bs:=by
 simp only[opK]at h;split at h
 .rename_i f;refine⟨_,[],cV.value λE st' σ a w hle hs=>?_,h⟩;have hg:∀(xs:Array Operand) (j:Nat) c,(xs.toList.map (st.ev cx))[j]? =some c->aG w E.O (live st'.heap) σ c ((xs.map a.eval).getD j Go.undef):=λxs j c hj=>by
   rw[bc]at hj;cases hx:xs.toList[j]? with
   |none=>rw[hx]at hj;cases hj
   |some x =>
    rw[hx]at hj;cases hj;have:(xs.map a.eval).getD j Go.undef=a.eval x:=by rw[bx]at hx;simp[hx]
    rw[this];exact hs.ev hle x
  exact⟨.func (.func f) (first.map a.eval) (hG.map a.eval),by simp[execOp,ho,Instr.makeFunc],.fn _ _ _ _ _ (by simp) (by simp) (hg first) (hg hG)⟩
 .exact h.elim
theorem ug(hT:bD cx){t:TypeId}(h:isMap cx t=true):∃kt et,cx.P.underlying t=some (.map kt et):=by
 unfold isMap at h;split at h
 .rename_i kt et zero ht;obtain⟨_,_,_,_,t2,t3,_⟩:=hT _ _ ht;rw[jt t3]at t2;exact⟨_,_,t2⟩
 .cases h
theorem Uo(hT:bD cx){o:Oper}{x:Operand}{t:TypeId}{c:Call}(ho:o.op= .call c)(hc:c.callee= .builtin .len)(ha:c.args.toList=[x])(ht:c.argTypes.toList=[t])(h:ln cx st t (st.ev cx x) k):∃v bs,cV cx o st v bs/\k v bs:=by
 have xE :c.args= #[x]:=by rw[<- Array.toList_inj];exact ha
 have yg :c.argTypes= #[t]:=by rw[<- Array.toList_inj];exact ht
 have he:∀ρ,execOp ρ o=(do pure (.value (<- Builtin.len_ #[t] o.type #[ρ x])):Sem Next):=λρ=>by
  simp[execOp,ho,resolve,hc,xE,yg,invoke,builtin]
 unfold ln at h;split at h
 .rename_i s hx;split at h
  .rename_i hs;obtain⟨ti,h1,h2⟩:=jH hs;refine⟨_,[],cW _ he λE st' σ a w hle hs=>?_,h⟩;have hr:=hs.ev hle x;rw[hx]at hr;obtain⟨b,hb,xJ⟩:=hr.str;obtain⟨_,_,_,_,t2,t3,_⟩:=hT _ _ h1;rw[h2]at t3;obtain rfl:=ff t3;rw[hb];refine⟨.int .i64 b.size,by simp[Builtin.len_,run_underlying t2,goInt],?_⟩;rw[<- xJ,Array.length_toList];exact .mkInt _ _
  .exact h.elim
 .rename_i sz rows hx;split at h
  .rename_i e hs;obtain⟨ti,h1,h2,_⟩:=cC hs;refine⟨_,[],cW _ he λE st' σ a w hle hs=>?_,h⟩;have hr:=hs.ev hle x;rw[hx]at hr;obtain⟨aa,cap,hv,_⟩:=hr.Ff;obtain⟨_,_,_,_,t2,t3,_⟩:=hT _ _ h1;rw[h2]at t3;obtain rfl:=bZ t3;rw[hv];exact⟨.int .i64 rows.length,by simp[Builtin.len_,run_underlying t2,goInt],.mkInt _ _⟩
  .exact h.elim
 .rename_i sz hx;split at h
  .rename_i e hs;obtain⟨ti,h1,h2,_⟩:=cC hs;refine⟨_,[],cW _ he λE st' σ a w hle hs=>?_,h⟩;have hr:=hs.ev hle x;rw[hx]at hr;obtain⟨_,_,_,_,t2,t3,_⟩:=hT _ _ h1;rw[h2]at t3;obtain rfl:=bZ t3;generalize a.eval x=u at hr;cases hr;exact⟨.int .i64 0,by simp[Builtin.len_,run_underlying t2,goInt],.mkInt _ _⟩
  .exact h.elim
 .rename_i s hx;split at h
  .rename_i e te sz rows fl hs hf;obtain⟨ti,h1,h2,_⟩:=cC hs;refine⟨_,[],cW _ he λE st' σ a w hle hs=>?_,h⟩;have hr:=hs.ev hle x;rw[hx]at hr;obtain⟨_,_,_,_,t2,t3,_⟩:=hT _ _ h1;rw[h2]at t3;obtain rfl:=bZ t3;obtain⟨xs,o1,_⟩:=hs.holds.blk s _ (hle.heap s _ hf);generalize a.eval x=u at hr;cases hr with|own _ hL =>
    rcases o1.2 with ⟨e1,e2⟩|⟨g,cap,cur,e1,_⟩
    .rw[e1,e2];exact⟨.int .i64 0,by simp[Builtin.len_,run_underlying t2,goInt],.mkInt _ _⟩
    .rw[e1];exact⟨.int .i64 rows.length,by simp[Builtin.len_,run_underlying t2,goInt],.mkInt _ _⟩
  .rename_i e te sz rows hs hf;obtain⟨ti,h1,h2,_⟩:=cC hs;refine⟨_,[],cW _ he λE st' σ a w hle hs=>?_,h⟩;have hr:=hs.ev hle x;rw[hx]at hr;obtain⟨_,_,_,_,t2,t3,_⟩:=hT _ _ h1;rw[h2]at t3;obtain rfl:=bZ t3;obtain⟨g,cur,tt,e1,_⟩:=hs.holds.blk s _ (hle.heap s _ hf);generalize a.eval x=u at hr;cases hr with|own _ hL =>
    rw[e1];exact⟨.int .i64 rows.length,by simp[Builtin.len_,run_underlying t2,goInt],.mkInt _ _⟩
  .rename_i e te sz rows hs hf;obtain⟨ti,h1,h2,_⟩:=cC hs;refine⟨_,[],cW _ he λE st' σ a w hle hs=>?_,h⟩;have hr:=hs.ev hle x;rw[hx]at hr;obtain⟨_,_,_,_,t2,t3,_⟩:=hT _ _ h1;rw[h2]at t3;obtain rfl:=bZ t3;obtain⟨⟨aa,cap,e1,_⟩,_⟩:=hs.holds.blk s _ (hle.heap s _ hf);generalize a.eval x=u at hr;cases hr with|own _ hL =>
    rw[e1];exact⟨.int .i64 rows.length,by simp[Builtin.len_,run_underlying t2,goInt],.mkInt _ _⟩
  .exact h.elim
 .rename_i s xb i0 hx;split at h
  .rename_i e te sz rows fl hs hf;obtain⟨ti,h1,h2,_⟩:=cC hs;refine⟨_,[],cW _ he λE st' σ a w hle hs=>?_,h⟩;have hr:=hs.ev hle x;rw[hx]at hr;obtain⟨_,_,_,_,t2,t3,_⟩:=hT _ _ h1;rw[h2]at t3;obtain rfl:=bZ t3;obtain⟨xs,o1,_⟩:=hs.holds.blk s _ (hle.heap s _ hf);generalize a.eval x=u at hr;cases hr with|tl _ _ _ g m cap o0 hL e1 =>
    rcases o1.2 with ⟨e2,hz⟩|⟨g',kG,cur,e2,_⟩
    .rw[e1]at e2;cases e2
    .rw[e1]at e2;cases e2;exact⟨.int .i64 ((rows.length-i0:Nat):Int),by simp[Builtin.len_,run_underlying t2,goInt],.mkInt _ _⟩
  .exact h.elim
 .rename_i s hx;split at h
  .rename_i m hm hf;obtain⟨kt,et,d2⟩:=ug hT hm;refine⟨_,[],cW _ he λE st' σ a w hle hs=>?_,h⟩;have hr:=hs.ev hle x;rw[hx]at hr;obtain⟨g,es,clock,e1,_,e3,e4⟩:=hs.holds.blk s _ (hle.heap s _ hf);generalize a.eval x=u at hr;cases hr with|omap _ hL =>
    rw[e1];exact⟨.int .i64 es.size,by simp[Builtin.len_,run_underlying d2,goInt,getObj,Sem.run,e3],by rw[e4.1.1];exact .mkInt _ _⟩
  .rename_i m hm hf;obtain⟨kt,et,d2⟩:=ug hT hm;refine⟨_,[],cW _ he λE st' σ a w hle hs=>?_,h⟩;have hr:=hs.ev hle x;rw[hx]at hr;obtain⟨g,es,clock,e1,_,e3,⟨e4,_⟩,_⟩:=hs.holds.blk s _ (hle.heap s _ hf);generalize a.eval x=u at hr;cases hr with|omap _ hL =>
    rw[e1];exact⟨.int .i64 es.size,by simp[Builtin.len_,run_underlying d2,goInt,getObj,Sem.run,e3],by rw[e4];exact .mkInt _ _⟩
  .exact h.elim
 .rename_i m hx;split at h
  .rename_i hm;obtain⟨kt,et,d2⟩:=ug hT hm;refine⟨_,[],cW _ he λE st' σ a w hle hs=>?_,h⟩;have hr:=hs.ev hle x;rw[hx]at hr;generalize a.eval x=u at hr;cases hr with|d _ _ hr =>
    obtain⟨b,clock,es,rfl,_,_,e3,e4⟩:=hr.LP;exact⟨.int .i64 es.size,by simp[Builtin.len_,run_underlying d2,goInt,getObj,Sem.run,e3],by rw[e4.1.1];exact .mkInt _ _⟩
  .exact h.elim
 .exact h.elim
end
section
variable {cx:Cx} {st:St} {k:KK}
theorem Le(hT:bD cx){o:Oper}{t:TypeId}{r:Option Operand}(ho:o.op= .makeMap t r)(h:opK cx o.dst o.type st (.makeMap t r) k):∃v bs,cV cx o st v bs/\k v bs:=by
 have run:∀{b:Bool},BY cx t=some b->FD (r.map (st.ev cx))=true-> ∀(E:Env) st' σ a w,st.le st' ->bN cx E st' σ a w->(execOp a.eval o).run cx.P w= .ok (.value (.map (some w.heap.size))) (w.alloc (.map #[] 0)):=by
  intro b hm hh E st' σ a w hle hs;cases r with
  |none=>simp[execOp,ho,Instr.makeMap,newObj,Sem.run]
  |some x =>
   have hr:=hs.ev hle x;simp only[Option.map_some,FD]at hh;split at hh
   .rename_i e;cases e
   .rename_i k n hx;rw[Option.some.inj hx]at hr;unfold BY at hm;split at hm
    .rename_i kt et zero ht;obtain⟨_,_,_,_,t2,t3,_⟩:=hT _ _ ht;rw[jt t3]at t2;simp[execOp,ho,Instr.makeMap,hr.int,run_underlying t2,asInt,asIntOf,newObj,Sem.run]
    .cases hm
   .cases hh
 simp only[opK]at h;split at h
 .rename_i d hd hh hm;refine⟨_,_,cV.new (by rw[ho];rfl) (by assumption) λE st' σ a w hle hs=>?_,h⟩;refine⟨w.alloc (.map #[] 0),.map (some w.heap.size),.map (some w.heap.size),run hm hh E st' σ a w hle hs,jl _ _,λg hg=>by cases hg;exact Nat.le_refl _,λσ' e1 hF hk kp hl=>⟨?_,?_⟩⟩
  .exact⟨w.heap.size, #[],0,e1,hF _ (Nat.le_refl _),heap_alloc_new w _,⟨rfl,Bj 0⟩,λj kk v hj=>by simp at hj⟩
  .rw[<- e1];exact .omap _ hl
 .rename_i d hd hh hm;refine⟨_,_,cV.new (by rw[ho];rfl) (by assumption) λE st' σ a w hle hs=>?_,h⟩;refine⟨w.alloc (.map #[] 0),.map (some w.heap.size),.map (some w.heap.size),run hm hh E st' σ a w hle hs,jl _ _,λg hg=>by cases hg;exact Nat.le_refl _,λσ' e1 hF hk kp hl=>⟨?_,?_⟩⟩
  .exact⟨w.heap.size, #[],0,e1,hF _ (Nat.le_refl _),heap_alloc_new w _,⟨rfl,Bj 0⟩,λj kk v hj=>by simp at hj⟩
  .rw[<- e1];exact .omap _ hl
 .exact h.elim
theorem Gm{w w' :World}{F O L L' :Nat->Prop}{σ σ' :Nat->Value}{d n:Nat}{e:TypeId}{size:Nat}{rows:List (List D)}{τ:Value}{xs:List Value}{fl:Bool}(hs:∀s,L s->L' s/\σ' s=σ s)(xP:fl=true-> ∃a,τ= .slice a n n)
 (hk:bw w w' (Own O L σ) (Own O L' σ')) (hσ:σ' d=τ) (hF:∀b,home τ=some b->F b) (hn:rows.length=n) (ho:w'.ownsRow 0 e size τ n xs) (hz:0<size) (hr:∀r∈rows,r.length=size/\ ∀d∈r,d.one=true)
 (h:∀i r j d,rows[i]? =some r->r[j]? =some d-> ∃u,xs[i*size+j]? =some u/\Rep w (Own O L σ) d u):cZ w' F O L' σ' d (.row e size rows fl):=by
 subst hn hσ;refine⟨xs,ho,hF,⟨hz,xP⟩,hr,λi r j d hi hj=>?_⟩;obtain⟨u,hu,hd⟩:=h i r j d hi hj;exact⟨u,hu,hd.mono hk⟩
theorem Dy{z:Array Value}{n size j:Nat}(hz:z.size=size)(hs:0<size)(i:Nat)(hi:i<n)(hj:j<size):(madeCells z (n*size)).toList[i*size+j]? =some (z.getD j Go.undef):=by
 have hD:i*size+j<n*size:=by
  have:(i+1)*size<=n*size:=Nat.mul_le_mul_right _ hi;rw[Nat.add_mul]at this;omega
 have hm:(i*size+j) % z.size=j:=by rw[hz,Nat.add_comm,Nat.add_mul_mod_self_right,Nat.mod_eq_of_lt hj]
 have kr :j<z.size:=by omega
 simp[madeCells,hD];rw[hm];simp[kr]
theorem FZ(hT:bD cx){o:Oper}{t:TypeId}{l c:Operand}(ho:o.op= .makeSlice t l c)(h:kC cx o.dst t (st.ev cx l) (st.ev cx c) (AS l c) k):∃v bs,cV cx o st v bs/\k v bs:=by
 unfold kC at h;split at h
 .rename_i d e ei kl n kc m hd kQ hl hc;split at h
  .rename_i z hz;obtain⟨h0,h1,h2,h3,h4,h⟩:=h;split at h
   .rename_i hM;have hM:1<=ei.size:=bB hM;obtain⟨ti,ht,kO,hK⟩:=cC kQ;refine⟨_,_,cV.new (by rw[ho];rfl) (by assumption) λE st' σ a w hle hs=>?_,h⟩;obtain⟨_,_,_,_,t2,t3,_⟩:=hT _ _ ht;rw[kO]at t3;obtain rfl:=bZ t3;obtain⟨info,desc,zv,i1,i2,i3,i4,i5,i6,i7,i8,i9,i10⟩:=hT _ _ hK;have xu:=hs.ev hle l;rw[hl]at xu;have xi:=hs.ev hle c;rw[hc]at xi;obtain⟨l1,l2⟩:=cD hz;have kx:∀(j:Nat) x,z[j]? =some x->x.one=true/\Rep w (Own E.O (live st'.heap) σ) x (zv.cells.getD j Go.undef):=λj x hj=>by
     obtain⟨cc,xd,hf⟩:=l2 j x hj;obtain⟨e1,e2⟩:=gO (w:=w) (O:=E.O) (L:=live st'.heap) (σ:=σ) (i9 j cc xd);refine⟨?_,iC hf e2⟩;rcases e1 with e1|rfl
     .cases cc <;> simp only[eI]at hf <;> first|(cases hf;exact e1)|(cases hf;rfl)|cases hf
     .cases hf
    have yi:z.length=ei.size:=l1.trans i8.symm;have hQ:∀(q:Nat) r,r∈List.replicate q z->r.length=ei.size/\ ∀x∈r,x.one=true:=λq r hr=>by
     obtain⟨_,rfl⟩:=List.mem_replicate.1 hr;exact⟨yi,λx hx=>by obtain⟨j,hj,rfl⟩:=List.getElem_of_mem hx;exact(kx j _ (au hj)).1⟩
    have xC:m=(m.toNat:Int):=by omega
    have xZ:AS l c=true->n=m:=λe=>by rw[Oc e,hc]at hl;cases hl;rfl
    rcases h1 with rfl|rfl
    .obtain⟨w',r1,r2,r3⟩:=run_make_full (P:=cx.P) w 0 t e info zv ei.size t2 i1 i6 i4 kl kc n.toNat (by rw[i5,Nat.mul_comm];omega) (by simp[maxLen];omega) (Nat.zero_le _);refine⟨w',.slice (some ⟨w.heap.size,0,none⟩) n.toNat n.toNat,.slice (some ⟨w.heap.size,0,none⟩) n.toNat n.toNat,?_,pP r3,λg hg=>by cases hg;exact Nat.le_refl _,λσ' e1 hF hk kp hl=>⟨?_,?_⟩⟩
     .rw[<- xC]at r1;simp[execOp,ho,xu.int,xi.int,r1]
     .refine Gm kp (λ_=>⟨_,rfl⟩) hk e1 (λb hb=>by cases hb;exact hF _ (Nat.le_refl _)) (by simp) r2 hM (hQ _) λi r j x hi hj=>?_
      have xR :i<n.toNat:=by have:=(aB.1 hi).1;simpa using this
      obtain⟨_,rfl⟩:=List.mem_replicate.1 (aD hi);have kr :j<ei.size:=by have:=(aB.1 hj).1;omega
      exact⟨_,Dy (by rw[i7, <- i8]) hM i xR kr,(kx j x hj).2⟩
     .have:=aG.own (w:=w') (O:=E.O) (σ:=σ') d hl;rw[e1]at this;exact this
    .obtain⟨w',r1,r2,r3⟩:=run_make_own (P:=cx.P) w 0 t e info zv ei.size t2 i1 i6 i4 kl kc m.toNat (by rw[i5,Nat.mul_comm];omega) (by simp[maxLen];omega) (Nat.zero_le _);refine⟨w',.slice (some ⟨w.heap.size,0,none⟩) 0 m.toNat,.slice (some ⟨w.heap.size,0,none⟩) 0 m.toNat,?_,pP r3,λg hg=>by cases hg;exact Nat.le_refl _,λσ' e1 hF hk kp hl=>⟨?_,?_⟩⟩
     .rw[<- xC]at r1;simp[execOp,ho,xu.int,xi.int,r1]
     .exact Gm kp (λe=>⟨_,by rw[<- xZ e];rfl⟩) hk e1 (λb hb=>by cases hb;exact hF _ (Nat.le_refl _)) (by simp) r2 hM (hQ _) λi r j x hi hj=>by simp at hi
     .have:=aG.own (w:=w') (O:=E.O) (σ:=σ') d hl;rw[e1]at this;exact this
   .exact h.elim
  .exact h.elim
 .exact h.elim
theorem iR{w:World}{O L:Nat->Prop}{σ:Nat->Value}{x:D}{u:Value}(h:Rep w (Own O L σ) x u):aG w O L σ x.dX u:=by
 unfold D.dX;split
 .rename_i cells;cases h with|agg _ vs hl h1 hh =>
  refine .agg _ _ (by simpa using hl) λj c hj=>?_
  rw[bc]at hj;cases hd:cells[j]? with
  |none=>rw[hd]at hj;cases hj
  |some y=>rw[hd]at hj;cases hj;exact .d _ _ (hh j y hd)
 .exact .d _ _ h
theorem Bd{w:World}{O L:Nat->Prop}{σ:Nat->Value}(b:ByteArray):∀(m:List (List UInt8×D)) (es:List MapEntry) (i:Nat),es.length=m.length ->
 (∀(j:Nat) k v,m[j]? =some (k,v)-> ∃e,es[j]? =some e/\Rep w (Own O L σ) (.str k) e.key/\Rep w (Own O L σ) v e.val) ->
 (bG b.data.toList m=none/\Instr.findNow .string (.string b) es i=some none)\/ ∃j v e,bG b.data.toList m=some v/\Instr.findNow .string (.string b) es i=some (some (i+j,e.val))/\es[j]? =some e/\m[j]? =some (b.data.toList,v)/\Rep w (Own O L σ) v e.val/\e.key= .string b /\
  ∀v',cM b.data.toList v' m=m.set j (b.data.toList,v'):=by
 intro m;induction m with
 |nil=>intro es i hl _;obtain rfl:es=[]:=List.eq_nil_of_length_eq_zero hl;exact .inl ⟨rfl,rfl⟩
 |cons p m ih =>
  obtain⟨k,v⟩:=p;intro es i hl h;cases es with
  |nil=>simp at hl
  |cons e es =>
   obtain⟨e',he,hk,hv⟩:=h 0 k v rfl;obtain rfl:e=e' :=by simpa using he
   have ym:=hk;generalize hU:e.key=ke at hk;cases hk with|str _ c hc =>
    by_cases hb:b.data.toList=k
    .have kL:b=c:=by
      have:b.data=c.data:=by rw[<- Array.toList_inj];rw[hb,hc]
      cases b;cases c;simp_all
     subst kL;refine .inr ⟨0,v,e,by simp[bG,hb],?_,rfl,by simp[hb],hv,hU,λv' =>by simp[cM,hb]⟩;have kJ:(b==b)=true:=(MapKept.bytes_beq b b).2 rfl;simp[Instr.findNow,hU,Instr.sameNow,kJ]
    .have kL:(b==c)=false:=by
      rw[<- Bool.not_eq_true];intro hh;have:b=c:=(MapKept.bytes_beq b c).1 hh;exact hb (by rw[this];exact hc)
     have hf:∀r,Instr.findNow .string (.string b) (e::es) i=r ↔ Instr.findNow .string (.string b) es (i+1)=r:=λr=>by
      simp[Instr.findNow,hU,Instr.sameNow,kL]
     rcases ih es (i+1) (by simpa using hl) (λj k v hj=>h (j+1) k v hj)with ⟨g1,g2⟩|⟨j,v',e',g1,g2,g3,g4,g5,g6,g7⟩
     .exact .inl ⟨by simp[bG,hb,g1],(hf _).2 g2⟩
     .exact .inr ⟨j+1,v',e',by simp[bG,hb,g1],(hf _).2 (by rw[g2,show i+1+j=i+(j+1) by omega]),by simpa using g3,by simpa using g4,g5,g6,λyj =>by simp[cM,hb,g7]⟩
theorem zF{α:Type}{R:α->Value->Prop}(b:ByteArray):∀(m:List (List UInt8×α)) (es:List MapEntry) (i:Nat),es.length=m.length ->
 (∀(j:Nat) k v,m[j]? =some (k,v)-> ∃e,es[j]? =some e/\eD (.str k) e.key/\R v e.val) ->
 (bG b.data.toList m=none/\Instr.findNow .string (.string b) es i=some none)\/ ∃j v e,bG b.data.toList m=some v/\Instr.findNow .string (.string b) es i=some (some (i+j,e.val))/\es[j]? =some e/\m[j]? =some (b.data.toList,v)/\R v e.val/\e.key= .string b /\
  ∀v',cM b.data.toList v' m=m.set j (b.data.toList,v'):=by
 intro m;induction m with
 |nil=>intro es i hl _;obtain rfl:es=[]:=List.eq_nil_of_length_eq_zero hl;exact .inl ⟨rfl,rfl⟩
 |cons p m ih =>
  obtain⟨k,v⟩:=p;intro es i hl h;cases es with
  |nil=>simp at hl
  |cons e es =>
   obtain⟨e',he,hk,hv⟩:=h 0 k v rfl;obtain rfl:e=e' :=by simpa using he
   obtain⟨c,hU,hc⟩:=hk;by_cases hb:b.data.toList=k
   .have kL:b=c:=by
     have:b.data=c.data:=by rw[<- Array.toList_inj];rw[hb,hc]
     cases b;cases c;simp_all
    subst kL;refine .inr ⟨0,v,e,by simp[bG,hb],?_,rfl,by simp[hb],hv,hU,λv' =>by simp[cM,hb]⟩;have kJ:(b==b)=true:=(MapKept.bytes_beq b b).2 rfl;simp[Instr.findNow,hU,Instr.sameNow,kJ]
   .have kL:(b==c)=false:=by
     rw[<- Bool.not_eq_true];intro hh;have:b=c:=(MapKept.bytes_beq b c).1 hh;exact hb (by rw[this];exact hc)
    have hf:∀r,Instr.findNow .string (.string b) (e::es) i=r ↔ Instr.findNow .string (.string b) es (i+1)=r:=λr=>by
     simp[Instr.findNow,hU,Instr.sameNow,kL]
    rcases ih es (i+1) (by simpa using hl) (λj k v hj=>h (j+1) k v hj)with ⟨g1,g2⟩|⟨j,v',e',g1,g2,g3,g4,g5,g6,g7⟩
    .exact .inl ⟨by simp[bG,hb,g1],(hf _).2 g2⟩
    .exact .inr ⟨j+1,v',e',by simp[bG,hb,g1],(hf _).2 (by rw[g2,show i+1+j=i+(j+1) by omega]),by simpa using g3,by simpa using g4,g5,g6,λyj =>by simp[cM,hb,g7]⟩
theorem wZ{w:World}{O L:Nat->Prop}{σ:Nat->Value}(hT:bD cx){t:TypeId}{i:TI}(hi:cx.ty t=some i){z:AV}(hz:uU i=some z):∃u,(zeroValue t).run cx.P w= .ok u w/\aG w O L σ z u:=by
 obtain⟨info,desc,zv,i1,i2,i3,i4,i5,i6,i7,i8,i9,i10⟩:=hT _ _ hi;refine⟨zv,by simp[zeroValue,typeInfo,i1,i6],?_⟩;unfold uU at hz;split at hz
 .rename_i ha;rw[ha]at i10;obtain⟨_,vs,rfl⟩:=i10;cases hz;exact .agg _ _ i7 λj c hj=>(gO (i9 j c hj)).2
 .rename_i ha;rw[ha]at i10;have hc:zv.cells= #[zv]:=by cases zv <;> first|rfl|cases i10
  split at hz
  .rename_i c xK;cases hz;have:=(gO (w:=w) (O:=O) (L:=L) (σ:=σ) (i9 0 _ (by rw[xK];rfl))).2;rw[hc]at this;exact this
  .cases hz
theorem FN(hT:bD cx){kt:TypeId}{x:D}(h:DR cx kt x=true):∃desc,cx.P.underlying kt=some desc/\qn desc x/\x.fG=true:=by
 cases x <;> simp only[DR]at h <;> first|(cases h;done)|skip
 .split at h
  .rename_i k n sz kU k' zero ht
   have h:=of_decide_eq_true h;subst h;obtain⟨_,desc,_,_,t2,t3,_⟩:=hT _ _ ht;exact⟨desc,t2,nP t3,rfl⟩
  .cases h
 .obtain⟨ti,h1,h2⟩:=jH h;obtain⟨_,desc,_,_,t2,t3,_⟩:=hT _ _ h1;rw[h2]at t3;exact⟨desc,t2,ff t3,rfl⟩
theorem Au(hT : bD cx){ok : Bool}{r : Option D}{z : AV}(h : match r with
      |some v=>(match ok with|true=>k (.tuple [v.dX,.d (.bool true)]) []|false=>k v.dX [])
      |none=>(match ok with|true=>k (.tuple [z,.d (.bool false)]) []|false=>k z [])) {o:Oper} {t:TypeId} {x i:Operand} (he:∀ρ,execOp ρ o=(do pure (.value (<- Instr.lookup t (ρ x) (ρ i) ok)):Sem Next)) {sz kU :Nat} {kt et:TypeId} {zero:List AV} (ht:cx.ty t=some ⟨sz,kU,.map kt et,zero⟩) {ei:TI} (hK:cx.ty et=some ei) (hz:uU ei=some z)
 {m:List (List D×D)} {kc:List D} {eq:List D->Option Bool} (hr:kB eq m=some r)
 (kz:∀(E:Env) st' σ a w,st.le st' ->bN cx E st' σ a w-> ∃g es clock,a.eval x= .map (some g)/\w.heap[g]? =some (.map es clock)/\tD (Rep w (Own E.O (live st'.heap) σ)) m es clock)
 (hU:∀(E:Env) st' σ a w,st.le st' ->bN cx E st' σ a w->mG cx.P kt kc eq (a.eval i)):∃v bs,cV cx o st v bs/\k v bs:=by
 have kV:∀{w:World} {O L:Nat->Prop} {σ:Nat->Value} {v:AV} {u:Value} {q:Bool},aG w O L σ v u->aG w O L σ (.tuple [v,.d (.bool q)]) (.tuple #[u,.bool q]):=λh=>by
  refine .tuple _ _ rfl λj c hj=>?_
  rcases j with _|_|j
  .cases hj;exact h
  .cases hj;exact .fL _
  .simp at hj
 have common : ∀ (E : Env) st' σ a w, st.le st' -> bN cx E st' σ a w -> ∃ v, aG w E.O (live st'.heap) σ (match r with | some v => v.dX | none => z) v /\
     (Instr.lookup t (a.eval x) (a.eval i) ok).run cx.P w= .ok (if ok then .tuple #[v,.bool r.isSome]else v) w:=by
  intro E st' σ a w hle hs;obtain⟨_,_,_,_,t2,t3,_⟩:=hT _ _ ht;have t3:=jt t3;subst t3;obtain⟨g,es,clock,e1,e3,⟨e4,_⟩,e5⟩:=kz E st' σ a w hle hs;have hk:=hU E st' σ a w hle hs;have hV:=hk.chk es.isEmpty w;have hA:(getObj g).run cx.P w= .ok (.map es clock) w:=by simp[getObj,Sem.run,e3]
  rw[e1];rcases hk.find w _ m es.toList r (by simpa using e4) (λj k v hj=>by
   obtain⟨e,he,q⟩:=e5 j k v hj;exact⟨e,by rw[bx];exact he,q⟩) hr with ⟨rfl,g2⟩|⟨j,k',v,e,rfl,_,_,g2,g3,_⟩
  .obtain⟨zu,xa,kx⟩:=wZ (w:=w) (O:=E.O) (L:=live st'.heap) (σ:=σ) hT hK hz;exact⟨zu,kx,by simp[Instr.lookup,run_underlying t2,hA,hV,g2,xa]⟩
  .exact⟨e.val,iR g3,by simp[Instr.lookup,run_underlying t2,hA,hV,g2]⟩
 cases r with
 |some v =>
  cases ok with
  |true=>exact⟨_,[],cW _ he λE st' σ a w hle hs=>by obtain⟨u,hu,hr⟩:=common E st' σ a w hle hs;exact⟨_,hr,kV hu⟩,h⟩
  |false=>exact⟨_,[],cW _ he λE st' σ a w hle hs=>by obtain⟨u,hu,hr⟩:=common E st' σ a w hle hs;exact⟨_,hr,hu⟩,h⟩
 |none =>
  cases ok with
  |true=>exact⟨_,[],cW _ he λE st' σ a w hle hs=>by obtain⟨u,hu,hr⟩:=common E st' σ a w hle hs;exact⟨_,hr,kV hu⟩,h⟩
  |false=>exact⟨_,[],cW _ he λE st' σ a w hle hs=>by obtain⟨u,hu,hr⟩:=common E st' σ a w hle hs;exact⟨_,hr,hu⟩,h⟩
theorem NV(hT:bD cx){o:Oper}{t:TypeId}{x i:Operand}{ok:Bool}(ho:o.op= .lookup t x i ok)(h:iI cx st t (st.ev cx x) (st.ev cx i) ok k):∃v bs,cV cx o st v bs/\k v bs:=by
 have he:∀ρ,execOp ρ o=(do pure (.value (<- Instr.lookup t (ρ x) (ρ i) ok)):Sem Next):=λρ=>by simp only[execOp,ho]
 have kV:∀{w:World} {O L:Nat->Prop} {σ:Nat->Value} {v:AV} {u:Value} {q:Bool},aG w O L σ v u->aG w O L σ (.tuple [v,.d (.bool q)]) (.tuple #[u,.bool q]):=λh=>by
  refine .tuple _ _ rfl λj c hj=>?_
  rcases j with _|_|j
  .cases hj;exact h
  .cases hj;exact .fL _
  .simp at hj
 unfold iI at h;split at h
 .rename_i m hJ;have kz:∀(E:Env) st' σ a w,st.le st' ->bN cx E st' σ a w-> ∃g es clock,a.eval x= .map (some g)/\w.heap[g]? =some (.map es clock)/\tD (Rep w (Own E.O (live st'.heap) σ)) m es clock:=by
   intro E st' σ a w hle hs;have ka:=hs.ev hle x;unfold mapOf at hJ;split at hJ
   .rename_i s hx;rw[hx]at ka;split at hJ
    .rename_i m' hf;cases hJ;obtain⟨g,es,clock,e1,e2,e3,e4⟩:=hs.holds.blk s _ (hle.heap s _ hf);generalize a.eval x=u at ka;cases ka with|omap _ hL=>exact⟨g,es,clock,e1,e3,e4⟩
    .cases hJ
   .rename_i m' hx;cases hJ;rw[hx]at ka;generalize a.eval x=u at ka;cases ka with|d _ _ ka =>
     obtain⟨b,clock,es,rfl,_,_,h,hm⟩:=ka.LP;exact⟨b,es,clock,rfl,h,hm⟩
   .cases hJ
  unfold qK at h;split at h
  .rename_i cs sz kU kt et zero hi ht
   split at h
   .rename_i kc ks ei xT xU hK;split at h
    .rename_i z hz hE;obtain⟨r,hr,h⟩:=h;have heq:=cx.PJ kt ks xU;rw[za]at hr;refine Au hT h he ht hK hz hr (kc:=kc) (λE st' σ a w hle hs=>kz E st' σ a w hle hs) (λE st' σ a w hle hs=>mG.struct heq hE ?_);have km:=hs.ev hle i;rw[hi]at km;generalize a.eval i=u at km;cases km with|agg _ vs hl hh =>
      obtain⟨l1,l2⟩:=cD xT;obtain⟨f1,f2⟩:=vO hE;refine .inr ⟨vs,rfl,by rw[hl,l1],λj d hj=>?_⟩;obtain⟨c,hc,hd⟩:=l2 j d hj;exact ny (iC hd (hh j c hc)) (f2 d (aD hj))
    .exact h.elim
   .exact h.elim
  .rename_i x0 sz kU kt et zero hi ht
   split at h
   .rename_i ei xV hK;split at h
    .rename_i z hz;obtain⟨r,hr,h⟩:=h;rw[zm]at hr;obtain⟨desc,xj,xM,xN⟩:=FN hT xV;refine Au hT h he ht hK hz hr (kc:=[.tuple [x0]]) (λE st' σ a w hle hs=>kz E st' σ a w hle hs) (λE st' σ a w hle hs=>mG.flat xj xM ?_);have km:=hs.ev hle i;rw[hi]at km;generalize a.eval i=u at km;cases km with|d _ _ km=>exact ny km xN
    .exact h.elim
   .exact h.elim
  .exact h.elim
 split at h
 .rename_i s b sz kU kt et zero hx hi ht
  split at h
  .rename_i m ei hf kR hK;split at h
   .rename_i z hz;obtain⟨ki,xq,xr⟩:=jH kR
    have common : ∀ (E : Env) st' σ a w, st.le st' -> bN cx E st' σ a w -> ∃ v, aG w E.O (live st'.heap) σ (match bG b m with | some v => v.dX | none => z) v /\
        (Instr.lookup t (a.eval x) (a.eval i) ok).run cx.P w= .ok (if ok then .tuple #[v,.bool (bG b m).isSome]else v) w:=by
     intro E st' σ a w hle hs;obtain⟨_,_,_,_,t2,t3,_⟩:=hT _ _ ht;have t3:=jt t3;subst t3;obtain⟨_,_,_,_,k2,k3,_⟩:=hT _ _ xq;rw[xr]at k3;obtain rfl:=ff k3;have ka:=hs.ev hle x;rw[hx]at ka;have km:=hs.ev hle i;rw[hi]at km;obtain⟨bb,kJ,rfl⟩:=km.str;obtain⟨g,es,clock,e1,e2,e3,⟨e4,_⟩,e5⟩:=hs.holds.blk s _ (hle.heap s _ hf);generalize a.eval x=u at ka;cases ka with|omap _ hL =>
      rw[e1,kJ];have hV:(Instr.checkKey es.isEmpty 10000 kt (.string bb)).run cx.P w= .ok () w:=MapKept.run_checkKey (n:=9999) k2 (by simp[MapKept.IsKey]) _;have hA:(getObj g).run cx.P w= .ok (.map es clock) w:=by simp[getObj,Sem.run,e3]
      rcases Bd (w:=w) (O:=E.O) (L:=live st'.heap) (σ:=σ) bb m es.toList 0 (by simpa using e4) (λj k v hj=>by
       obtain⟨e,he,r⟩:=e5 j k v hj;exact⟨e,by rw[bx];exact he,r⟩)with ⟨g1,g2⟩|⟨j,v,e,g1,g2,g3,g4,g5,g6,_⟩
      .obtain⟨zu,xa,kx⟩:=wZ (w:=w) (O:=E.O) (L:=live st'.heap) (σ:=σ) hT hK hz;refine⟨zu,by rw[g1];exact kx,?_⟩;rw[g1];simp[Instr.lookup,run_underlying t2,hA,hV,Instr.findKey,run_underlying k2,g2,xa]
      .refine⟨e.val,by rw[g1];exact iR g5,?_⟩;rw[g1];simp[Instr.lookup,run_underlying t2,hA,hV,Instr.findKey,run_underlying k2,g2]
    have kV:∀{w:World} {O L:Nat->Prop} {σ:Nat->Value} {v:AV} {u:Value} {q:Bool},aG w O L σ v u->aG w O L σ (.tuple [v,.d (.bool q)]) (.tuple #[u,.bool q]):=λh=>by
     refine .tuple _ _ rfl λj c hj=>?_
     rcases j with _|_|j
     .cases hj;exact h
     .cases hj;exact .fL _
     .simp at hj
    split at h
    .rename_i v hv;rw[hv]at common;cases ok with
     |true=>exact⟨_,[],cW _ he λE st' σ a w hle hs=>by obtain⟨u,hu,hr⟩:=common E st' σ a w hle hs;exact⟨_,hr,kV hu⟩,h⟩
     |false=>exact⟨_,[],cW _ he λE st' σ a w hle hs=>by obtain⟨u,hu,hr⟩:=common E st' σ a w hle hs;exact⟨_,hr,hu⟩,h⟩
    .rename_i hv;rw[hv]at common;cases ok with
     |true=>exact⟨_,[],cW _ he λE st' σ a w hle hs=>by obtain⟨u,hu,hr⟩:=common E st' σ a w hle hs;exact⟨_,hr,kV hu⟩,h⟩
     |false=>exact⟨_,[],cW _ he λE st' σ a w hle hs=>by obtain⟨u,hu,hr⟩:=common E st' σ a w hle hs;exact⟨_,hr,hu⟩,h⟩
   .exact h.elim
  .rename_i m ei hf kR hK;split at h
   .rename_i z hz;obtain⟨r,hr,h⟩:=h;obtain⟨ki,xq,xr⟩:=jH kR;refine⟨_,[],cW _ he λE st' σ a w hle hs=>?_,h⟩;obtain⟨_,_,_,_,t2,t3,_⟩:=hT _ _ ht;have t3:=jt t3;subst t3;obtain⟨_,_,_,_,k2,k3,_⟩:=hT _ _ xq;rw[xr]at k3;obtain rfl:=ff k3;have ka:=hs.ev hle x;rw[hx]at ka;have km:=hs.ev hle i;rw[hi]at km;obtain⟨bb,kJ,rfl⟩:=km.str;obtain⟨g,es,clock,e1,e2,e3,⟨e4,_⟩,e5⟩:=hs.holds.blk s _ (hle.heap s _ hf);generalize a.eval x=u at ka;cases ka with|omap _ hL =>
     rw[e1,kJ];have hV:(Instr.checkKey es.isEmpty 10000 kt (.string bb)).run cx.P w= .ok () w:=MapKept.run_checkKey (n:=9999) k2 (by simp[MapKept.IsKey]) _;have hA:(getObj g).run cx.P w= .ok (.map es clock) w:=by simp[getObj,Sem.run,e3]
     rcases zF (R:=aG w E.O (live st'.heap) σ) bb m es.toList 0 (by simpa using e4) (λj k v hj=>by
      obtain⟨e,he,r⟩:=e5 j k v hj;exact⟨e,by rw[bx];exact he,r⟩)with ⟨g1,g2⟩|⟨j,v,e,g1,g2,g3,g4,g5,g6,_⟩
     .obtain⟨zu,xa,kx⟩:=wZ (w:=w) (O:=E.O) (L:=live st'.heap) (σ:=σ) hT hK hz;refine⟨zu,?_,by rw[<- hr,g1];exact kx⟩;simp[Instr.lookup,run_underlying t2,hA,hV,Instr.findKey,run_underlying k2,g2,xa]
     .refine⟨e.val,?_,by rw[<- hr,g1];exact g5⟩;simp[Instr.lookup,run_underlying t2,hA,hV,Instr.findKey,run_underlying k2,g2]
   .exact h.elim
  .exact h.elim
 .exact h.elim
theorem vL{size:Nat}:∀(us:List Value) (i:Nat) (cells:Array Value),(∀u∈us,u.cells.size=size)->(i+us.length)*size<=cells.size ->
 ∃vs,Instr.fill (λi=>some (i*size,size)) cells ((us.zipIdx i).map λp=>(p.2,p.1))=some vs/\vs.size=cells.size /\
  (∀q,q<i*size->vs.getD q Go.undef=cells.getD q Go.undef)/\ ∀(r:Nat) u,us[r]? =some u-> ∀j,j<size->vs.getD ((i+r)*size+j) Go.undef=u.cells.getD j Go.undef:=by
 intro us;induction us with
 |nil=>intro i cells _ _;exact⟨cells,rfl,rfl,λ_ _=>rfl,λr u h=>by simp at h⟩
 |cons u t ih =>
  intro i cells hu hle;have hs:=hu u (by simp);have e1:(i+(u::t).length)*size=i*size+size+t.length*size:=by simp[Nat.add_mul,Nat.add_comm];omega
  have hS:=λq=>CK u.cells.toList cells (i*size) 0 q (by simp only[Array.length_toList,hs];have:=Nat.zero_le (t.length*size);omega)
  obtain⟨vs,v1,v2,v3,v4⟩:=ih (i+1) (u.cells.zipIdx.foldl (λcs (c,j)=>cs.setIfInBounds (i*size+j) c) cells) (λx hx=>hu x (by simp[hx])) (by
   rw[<- Array.foldl_toList,Array.toList_zipIdx,(hS 0).1];have:(i+1+t.length)*size=(i+(u::t).length)*size:=by simp;congr 1;omega
   omega)
  have hg:∀q,(u.cells.zipIdx.foldl (λcs (c,j)=>cs.setIfInBounds (i*size+j) c) cells).getD q Go.undef=if i*size+0<=q/\q<i*size+0+u.cells.toList.length then u.cells.toList.getD (q-(i*size+0)) Go.undef else cells.getD q Go.undef:=λq=>by
   rw[<- (hS q).2, <- Array.foldl_toList,Array.toList_zipIdx]
  have hM:(u.cells.zipIdx.foldl (λcs (c,j)=>cs.setIfInBounds (i*size+j) c) cells).size=cells.size:=by
   rw[<- (hS 0).1, <- Array.foldl_toList,Array.toList_zipIdx]
  refine⟨vs,?_,v2.trans hM,λq hq=>?_,λr x hr j hj=>?_⟩
  .simp only[List.zipIdx_cons,List.map_cons,Instr.fill];rw[if_neg (by simp[hs];omega)];exact v1
  .rw[v3 q (by rw[Nat.add_mul];omega),hg,if_neg (by simp;omega)]
  .cases r with
   |zero =>
    simp at hr;subst hr;rw[Nat.add_zero,v3 _ (by rw[Nat.add_mul];omega),hg,if_pos (by simp[hs];omega)];simp
   |succ r =>
    have:=v4 r x (by simpa using hr) j hj;rw[show i+(r+1)=i+1+r by omega];exact this
theorem bN.Ur{E:Env}{σ:Nat->Value}{a:Act}{w:World}(h:bN cx E st σ a w)(b:Nat)(hb:Own E.O (live st.heap) σ b):b<w.heap.size:=by
 rcases hb with hb|⟨s,hs,e⟩
 .rcases Nat.lt_or_ge b E.w0.heap.size with hl|hg
  .exact Nat.lt_of_lt_of_le hl h.frame.size
  .exact absurd (h.new b hg) (h.apart b hb)
 .exact(h.holds.home hs e).2
theorem Gn{E:Env}{st' :St}{σ:Nat->Value}{a:Act}{w:World}(hle:st.le st')(hs:bN cx E st' σ a w){size:Nat}:∀(parts:List (Nat×Operand)) (i:Nat) (rows:List (List D)),pZ st cx size i parts=some rows ->
 rows.length=parts.length/\(∀r∈rows,r.length=size/\ ∀x∈r,x.one=true)/\(parts.map λp=>(p.1,a.eval p.2))=((parts.map λp=>a.eval p.2).zipIdx i).map (λp=>(p.2,p.1)) /\
 (∀u∈parts.map (λp=>a.eval p.2),u.cells.size=size)/\ ∀(r:Nat) row,rows[r]? =some row-> ∃u,(parts.map λp=>a.eval p.2)[r]? =some u/\ ∀j d,row[j]? =some d->Rep w (Own E.O (live st'.heap) σ) d (u.cells.getD j Go.undef):=by
 intro parts;induction parts with
 |nil=>intro i rows h;cases h;exact⟨rfl,λr h=>by simp at h,rfl,λu h=>by simp at h,λr row h=>by simp at h⟩
 |cons p t ih =>
  obtain⟨q,x⟩:=p;intro i rows h;simp only[pZ]at h;split at h
  .rename_i hq;obtain rfl:i=q:=bd hq;split at h
   .rename_i cs kN;split at h
    .rename_i ds xO;split at h
     .rename_i rs e1 e2 xz;cases h;have e1:ds.length=size:=bd e1;obtain⟨k1,k2⟩:=jE kN hs.one (hs.ev hle x);obtain⟨l1,l2⟩:=cD xO;obtain⟨i1,i2,i3,i4,i5⟩:=ih (i+1) rs xz;refine⟨by simp[i1],λr hr=>?_,by simp[i3],λu hu=>?_,λr row hr=>?_⟩
      .rcases List.mem_cons.1 hr with rfl|hr
       .exact⟨e1,λy hy=>aI.1 e2 y hy⟩
       .exact i2 r hr
      .simp only[List.map_cons,List.mem_cons]at hu;rcases hu with rfl|hu
       .rw[k1, <- l1,e1]
       .exact i4 u hu
      .cases r with
       |zero =>
        simp at hr;subst hr;refine⟨a.eval x,rfl,λj d hj=>?_⟩;obtain⟨c,hc,hd⟩:=l2 j d hj;exact pc hd (k2 j c hc)
       |succ r=>simpa using i5 r row (by simpa using hr)
     .cases h
    .cases h
   .cases h
  .cases h
theorem QV{E:Env}{st' :St}{σ:Nat->Value}{a:Act}{w:World}(hle:st.le st')(hs:bN cx E st' σ a w){size:Nat}:∀(parts:List (Nat×Operand)) (i:Nat) (rows:List (List AV)),qc st cx size i parts=some rows ->
 rows.length=parts.length/\(∀r∈rows,r.length=size/\ ∀x∈r,x.one=true)/\(parts.map λp=>(p.1,a.eval p.2))=((parts.map λp=>a.eval p.2).zipIdx i).map (λp=>(p.2,p.1)) /\
 (∀u∈parts.map (λp=>a.eval p.2),u.cells.size=size)/\ ∀(r:Nat) row,rows[r]? =some row-> ∃u,(parts.map λp=>a.eval p.2)[r]? =some u/\ ∀j d,row[j]? =some d->aG w E.O (live st'.heap) σ d (u.cells.getD j Go.undef):=by
 intro parts;induction parts with
 |nil=>intro i rows h;cases h;exact⟨rfl,λr h=>by simp at h,rfl,λu h=>by simp at h,λr row h=>by simp at h⟩
 |cons p rest ih =>
  obtain⟨j,x⟩:=p;intro i rows h;simp only[qc]at h;split at h
  .rename_i xS;obtain rfl:i=j:=bd xS;split at h
   .rename_i xc xh;split at h
    .rename_i cs kN;obtain rfl:=qN kN;split at h
     .rename_i rs e1 e2 xz;cases h;have e1:cs.length=size:=bd e1;obtain⟨k1,k2⟩:=jE xh hs.one (hs.ev hle x);obtain⟨i1,i2,i3,i4,i5⟩:=ih (i+1) rs xz;refine⟨by simp[i1],λr hr=>?_,by simp[i3],λu hu=>?_,λr row hr=>?_⟩
      .rcases List.mem_cons.1 hr with rfl|hr
       .exact⟨e1,λy hy=>aI.1 e2 y hy⟩
       .exact i2 r hr
      .simp only[List.map_cons,List.mem_cons]at hu;rcases hu with rfl|hu
       .rw[k1,e1]
       .exact i4 u hu
      .cases r with
       |zero =>
        simp at hr;subst hr;exact⟨a.eval x,rfl,λj d hj=>k2 j d hj⟩
       |succ r=>simpa using i5 r row (by simpa using hr)
     .cases h
    .cases h
   .cases h
  .cases h
theorem Dz(hT:bD cx){o:Oper}{t:TypeId}{len:Nat}{parts:Array (Nat×Operand)}(ho:o.op= .buildSlice t len parts)(h:opK cx o.dst o.type st (.buildSlice t len parts) k):∃v bs,cV cx o st v bs/\k v bs:=by
 simp only[opK]at h;split at h
 .rename_i d e ei hd kQ;split at h
  .rename_i rows hQ;split at h
   .rename_i b1 b2 b3 b4;have b1:rows.length=len:=bd b1;have b2:len*ei.size<=16777216:=bB b2;have b3:1<=ei.size:=bB b3;obtain⟨ti,ht,kO,hK⟩:=cC kQ;refine⟨_,_,cV.new (by rw[ho];rfl) (by assumption) λE st' σ a w hle hs=>?_,h⟩;obtain⟨_,_,_,_,t2,t3,_⟩:=hT _ _ ht;rw[kO]at t3;obtain rfl:=bZ t3;obtain⟨info,desc,zv,i1,i2,i3,i4,i5,i6,i7,i8,i9,i10⟩:=hT _ _ hK;obtain⟨_,r2⟩:=dH (w:=w) hT hK;obtain⟨p1,p2,p3,p4,p5⟩:=Gn hle hs parts.toList 0 rows hQ;have kv:parts.toList.length=len:=by omega
    obtain⟨zc,kb⟩:∃zc:Array Value,zc=if len*ei.size=0 then #[]else zv.cells:=⟨_,rfl⟩
    obtain⟨vs,v1,v2,_,v4⟩:=vL (size:=ei.size) (parts.toList.map λp=>a.eval p.2) 0 ((Array.range (len*ei.size)).map (zc[· % zc.size]!)) p4 (by simp only[aA,Nat.zero_add,kv,Array.size_map,Array.size_range];exact Nat.le_refl _);refine⟨w.alloc (.cells vs e),.slice (some ⟨w.heap.size,0,none⟩) len len,.slice (some ⟨w.heap.size,0,none⟩) len len,?_,jl _ _,λg hg=>by cases hg;exact Nat.le_refl _,λσ' e1 hF hk kp hl=>⟨?_,?_⟩⟩
    .have kP:(parts.map λ(x:Nat×Operand)=>(x.1,a.eval x.2)).toList=((parts.toList.map λp=>a.eval p.2).zipIdx 0).map (λp=>(p.2,p.1)):=by rw[<- p3];simp
     have kx:(if len*ei.size=0 then pure #[]else do pure (<- zeroValue e).cells:Sem (Array Value)).run cx.P w= .ok zc w:=by
      rw[kb];split <;> simp[zeroValue,typeInfo,i1,i6]
     have xy:¬(len*ei.size>2 ^ 24):=by omega
     have hN :¬16777216<len*ei.size:=by omega
     simp only[execOp,ho,Instr.buildSlice,kP];by_cases hY:len*ei.size=0
     .rw[if_pos hY]at kb;subst kb;have hJ:∀f:Nat->Value,(Array.range (len*ei.size)).map f= #[]:=λf=>by rw[hY];simp[Array.range]
      have hX:∀f:Nat->Value,(Array.range 0).map f= #[]:=λf=>by simp[Array.range]
      rw[hJ]at v1;simp[run_underlying t2,r2,hN,hY,hX,v1,newRow,newObj,Sem.run]
     .rw[if_neg hY]at kb;subst kb;simp[run_underlying t2,r2,hN,hY,v1,newRow,newObj,Sem.run,zeroValue,typeInfo,i1,i6]
    .refine Gm (fl:=inL (d+100000) cx.bld) kp (λ_=>⟨_,rfl⟩) hk e1 (λb hb=>by cases hb;exact hF _ (Nat.le_refl _)) b1 (xs:=vs.toList) ⟨?_,.inr ⟨w.heap.size,len,vs,rfl,Nat.zero_le _,heap_alloc_new w _,Nat.le_refl _,?_,?_,?_⟩⟩ b3 p2 λi r j x hi hj=>?_
     .simp[v2]
     .simp only[maxLen];have:len*1<=len*ei.size:=Nat.mul_le_mul_left _ b3;omega
     .simp[v2]
     .rw[List.take_of_length_le];simp[v2]
     .obtain⟨u,hu,hr⟩:=p5 i r hi;have kr :j<ei.size:=by have:=(aB.1 hj).1;rw[(p2 r (aD hi)).1]at this;exact this
      have hD:i<len:=by have:=(aB.1 hi).1;omega
      have hq:i*ei.size+j<vs.size:=by
       have:(i+1)*ei.size<=len*ei.size:=Nat.mul_le_mul_right _ hD;rw[Nat.add_mul]at this;simp[v2];omega
      have:=v4 i u hu j kr;rw[Nat.zero_add]at this;refine⟨vs[i*ei.size+j],by simp[hq],?_⟩;rw[show vs[i*ei.size+j]=u.cells.getD j Go.undef by rw[<- this];simp[hq]];exact hr j x hj
    .have:=aG.own (w:=w.alloc (.cells vs e)) (O:=E.O) (σ:=σ') d hl;rw[e1]at this;exact this
   .rename_i b1 b2 b3 b4;have b1:rows.length=len:=bd b1;have b2:len*ei.size<=16777216:=bB b2;have b3:1<=ei.size:=bB b3;obtain⟨ti,ht,kO,hK⟩:=cC kQ;refine⟨_,_,cV.Ej (by rw[ho];rfl) λE st' a w Q hle hd kq ⟨σ,hs⟩=>?_,h⟩;obtain⟨_,_,_,_,t2,t3,_⟩:=hT _ _ ht;rw[kO]at t3;obtain rfl:=bZ t3;obtain⟨info,desc,zv,i1,i2,i3,i4,i5,i6,i7,i8,i9,i10⟩:=hT _ _ hK;obtain⟨_,r2⟩:=dH (w:=w) hT hK;obtain⟨p1,p2,p3,p4,p5⟩:=Gn hle hs parts.toList 0 rows hQ;have kv:parts.toList.length=len:=by omega
    obtain⟨zc,kb⟩:∃zc:Array Value,zc=if len*ei.size=0 then #[]else zv.cells:=⟨_,rfl⟩
    obtain⟨vs,v1,v2,_,v4⟩:=vL (size:=ei.size) (parts.toList.map λp=>a.eval p.2) 0 ((Array.range (len*ei.size)).map (zc[· % zc.size]!)) p4 (by simp only[aA,Nat.zero_add,kv,Array.size_map,Array.size_range];exact Nat.le_refl _);have kn:(execOp a.eval o).run cx.P w= .ok (.value (.slice (some ⟨w.heap.size,0,none⟩) len len)) (w.alloc (.cells vs e)):=by
     have kP:(parts.map λ(x:Nat×Operand)=>(x.1,a.eval x.2)).toList=((parts.toList.map λp=>a.eval p.2).zipIdx 0).map (λp=>(p.2,p.1)):=by rw[<- p3];simp
     have hN :¬16777216<len*ei.size:=by omega
     simp only[execOp,ho,Instr.buildSlice,kP];by_cases hY:len*ei.size=0
     .rw[if_pos hY]at kb;subst kb;have hJ:∀f:Nat->Value,(Array.range (len*ei.size)).map f= #[]:=λf=>by rw[hY];simp[Array.range]
      have hX:∀f:Nat->Value,(Array.range 0).map f= #[]:=λf=>by simp[Array.range]
      rw[hJ]at v1;simp[run_underlying t2,r2,hN,hY,hX,v1,newRow,newObj,Sem.run]
     .rw[if_neg hY]at kb;subst kb;simp[run_underlying t2,r2,hN,hY,v1,newRow,newObj,Sem.run,zeroValue,typeInfo,i1,i6]
    simp only[Oper.wp,kn,Oper.upon];have kf:=jl w (.cells vs e);have hk:bw w (w.alloc (.cells vs e)) (Own E.O (live st'.heap) σ) (Own E.O (live st'.heap) σ):=⟨kf.size,λx _ hx=>kf.block x hx,λ_ h _=>h⟩
    refine⟨σ,hs.grow hd (λs _=>rfl) kf (λq0 B hB hl=>by simp[live,find]at hl) (λs b hl=>by simp[live,find]at hl) (λs s' b hl=>by simp[live,find]at hl) (λs b hb=>by simp[find]at hb) ?_⟩;have xf:¬Own E.O (live ([]++st'.heap)) σ w.heap.size:=λhO=>by
     have:=hs.Ur _ hO;omega
    refine .d _ _ ?_;refine .slice ei.size rows w.heap.size 0 len len (λi j=>vs.getD (i*ei.size+j) Go.undef) b1 xf (bI.1 (heap_alloc_new w (.cells vs e))).1 (Nat.le_refl _) p2 (λi r j d hi hj=>?_) (λi r j d hi hj=>?_)
    .have kr :j<ei.size:=by have:=(aB.1 hj).1;rw[(p2 r (aD hi)).1]at this;exact this
     have hD:i<len:=by have:=(aB.1 hi).1;omega
     have hq:i*ei.size+j<vs.size:=by
      have:(i+1)*ei.size<=len*ei.size:=Nat.mul_le_mul_right _ hD;rw[Nat.add_mul]at this;simp[v2];omega
     have xx:=heap_alloc_new w (.cells vs e);simp only[World.cell?,xx,Nat.zero_add];simp[hq]
    .obtain⟨u,hu,hr⟩:=p5 i r hi;have kr :j<ei.size:=by have:=(aB.1 hj).1;rw[(p2 r (aD hi)).1]at this;exact this
     have:=v4 i u hu j kr;rw[Nat.zero_add]at this;rw[this];exact(hr j d hj).mono hk
   .exact h.elim
  .split at h
   .rename_i rows hQ;split at h
    .rename_i b1 b2 b3;have b1:rows.length=len:=bd b1;have b2:len*ei.size<=16777216:=bB b2;have b3:1<=ei.size:=bB b3;obtain⟨ti,ht,kO,hK⟩:=cC kQ;refine⟨_,_,cV.new (by rw[ho];rfl) (by assumption) λE st' σ a w hle hs=>?_,h⟩;obtain⟨_,_,_,_,t2,t3,_⟩:=hT _ _ ht;rw[kO]at t3;obtain rfl:=bZ t3;obtain⟨info,desc,zv,i1,i2,i3,i4,i5,i6,i7,i8,i9,i10⟩:=hT _ _ hK;obtain⟨_,r2⟩:=dH (w:=w) hT hK;obtain⟨p1,p2,p3,p4,p5⟩:=QV hle hs parts.toList 0 rows hQ;have kv:parts.toList.length=len:=by omega
     obtain⟨zc,kb⟩:∃zc:Array Value,zc=if len*ei.size=0 then #[]else zv.cells:=⟨_,rfl⟩
     obtain⟨vs,v1,v2,_,v4⟩:=vL (size:=ei.size) (parts.toList.map λp=>a.eval p.2) 0 ((Array.range (len*ei.size)).map (zc[· % zc.size]!)) p4 (by simp only[aA,Nat.zero_add,kv,Array.size_map,Array.size_range];exact Nat.le_refl _);refine⟨w.alloc (.cells vs e),.slice (some ⟨w.heap.size,0,none⟩) len len,.slice (some ⟨w.heap.size,0,none⟩) len len,?_,jl _ _,λg hg=>by cases hg;exact Nat.le_refl _,λσ' e1 hF hk kp hl=>⟨?_,?_⟩⟩
     .have kP:(parts.map λ(x:Nat×Operand)=>(x.1,a.eval x.2)).toList=((parts.toList.map λp=>a.eval p.2).zipIdx 0).map (λp=>(p.2,p.1)):=by rw[<- p3];simp
      have kx:(if len*ei.size=0 then pure #[]else do pure (<- zeroValue e).cells:Sem (Array Value)).run cx.P w= .ok zc w:=by
       rw[kb];split <;> simp[zeroValue,typeInfo,i1,i6]
      have xy:¬(len*ei.size>2 ^ 24):=by omega
      have hN :¬16777216<len*ei.size:=by omega
      simp only[execOp,ho,Instr.buildSlice,kP];by_cases hY:len*ei.size=0
      .rw[if_pos hY]at kb;subst kb;have hJ:∀f:Nat->Value,(Array.range (len*ei.size)).map f= #[]:=λf=>by rw[hY];simp[Array.range]
       have hX:∀f:Nat->Value,(Array.range 0).map f= #[]:=λf=>by simp[Array.range]
       rw[hJ]at v1;simp[run_underlying t2,r2,hN,hY,hX,v1,newRow,newObj,Sem.run]
      .rw[if_neg hY]at kb;subst kb;simp[run_underlying t2,r2,hN,hY,v1,newRow,newObj,Sem.run,zeroValue,typeInfo,i1,i6]
     .refine⟨w.heap.size,vs,e,by rw[e1,b1],hF _ (Nat.le_refl _),heap_alloc_new w _,λr hr=>(p2 r hr).1,λi r j x hi hj=>?_⟩;obtain⟨u,hu,hr⟩:=p5 i r hi;have kr :j<ei.size:=by have:=(aB.1 hj).1;rw[(p2 r (aD hi)).1]at this;exact this
      have hD:i<len:=by have:=(aB.1 hi).1;omega
      have hq:i*ei.size+j<vs.size:=by
       have:(i+1)*ei.size<=len*ei.size:=Nat.mul_le_mul_right _ hD;rw[Nat.add_mul]at this;simp[v2];omega
      have:=v4 i u hu j kr;rw[Nat.zero_add]at this;refine⟨⟨.inl ((p2 r (aD hi)).2 x (aD hj)),hq⟩,?_⟩;rw[this];exact(hr j x hj).mono hk kp
     .have:=aG.own (w:=w.alloc (.cells vs e)) (O:=E.O) (σ:=σ') d hl;rw[e1]at this;exact this
    .exact h.elim
   .exact h.elim
 .exact h.elim
end
end NQ
