/-
  Texts of the proof, merged in build order.
-/
import Derived.Test.YtjapjahfllomkaaGreatDoorAbM
import Derived.Test.YtjapjahfllomkaaGreatDoorIaM
import Derived.Test.YtjapjahfllomkaaGreatDoorMGk
import Derived.Lib.SlicesCompact
import Derived.Test.YtjapjahfllomkaaGreatDoorMGa
import Derived.Test.YtjapjahfllomkaaGreatDoorQsoM
import Derived.Test.YtjapjahfllomkaaGreatDoorSortM
import Derived.Test.YtjapjahfllomkaaGreatDoorMVa
import Derived.Test.YtjapjahfllomkaaGreatDoorMQt
set_option linter.all false
set_option maxRecDepth 100000
namespace NP
open NQ Go
/-! ### The way -/
def ju(zs:List ag)(q:bg):Nat->Bs->List (Bs×Ans)
 | 0,_=>[]
 | f+1,a=>match bU zs a with
  | none=>[]
  | some x=>(a,(bH x.2.zone q).1)::(if ((bH x.2.zone q).1.kind != 4)=true then[]else ju zs q f (bH x.2.zone q).1.cut)
def iI(zs:List ag)(q:bg):List (Bs×Ans):=ju zs q ((back q.name).length+2) [46]
def uj(p:Bs×Ans):List D:=[.str p.1, .agg (dq p.2)]
theorem lR{zs:List ag}{q:bg}{f:Nat}{a:Bs}(h:bU zs a=none):ju zs q f a=[]:=by
 cases f with
 | zero=>rfl
 | succ f=>unfold ju;rw[h]
theorem lS{zs:List ag}{q:bg}{f:Nat}{a:Bs}{x:Nat×ag}(h:bU zs a=some x):ju zs q (f+1) a=(a,(bH x.2.zone q).1)::(if ((bH x.2.zone q).1.kind != 4)=true then[]else ju zs q f (bH x.2.zone q).1.cut):=by
 rw[ju,h]
theorem Fe(zs:List ag)(q:bg):∀(f:Nat) (a:Bs),l9 zs (dw zs) q f a=match (ju zs q f a).find? (fun p=>p.2.kind != 4)with | some p=>(p.2,true) | none=>(lJ,false)
 | 0,a=>rfl
 | f+1,a=>by
  rw[CM];cases h:bU zs a with
  | none=>rw[lR h];rfl
  | some x =>
   rw[lS h];dsimp only;cases hk:((bH x.2.zone q).1.kind != 4)with
   | true=>rw[if_pos rfl,List.find?_cons_of_pos (p:=fun p:Bs×Ans=>p.2.kind != 4) hk]
   | false=>rw[if_neg (by simp),List.find?_cons_of_neg (p:=fun p:Bs×Ans=>p.2.kind != 4) (by simp[hk]),if_neg (by simp)];exact Fe zs q f _
theorem kG{zs:List ag}{a:Bs}{x:Nat×ag}(h:bU zs a=some x):x.2∈zs/\x.2.zone.apex=a:=⟨(Bp h).1,(Bp h).2.1⟩
theorem qZ{zs:List ag}{q:bg}(hg:dB zs)(hq:b9 q=true){a:Bs}(hu:aM q.name a=true){x:Nat×ag}(h:bU zs a=some x):Use x.2.zone q:=by
 obtain⟨h1,h2⟩:=kG h;exact⟨(hg _ h1).1,(hg _ h1).2,hq,by rw[h2];exact hu⟩
theorem Fg{zs:List ag}{q:bg}(hg:dB zs)(hq:b9 q=true):∀(f:Nat) (a:Bs),aM q.name a=true-> ∀p∈ju zs q f a,∃x,bU zs p.1=some x/\p.2=(bH x.2.zone q).1/\Use x.2.zone q/\aM q.name p.1=true
 | 0,a,hu,p,hp=>by cases hp
 | f+1,a,hu,p,hp=>by
  cases h:bU zs a with
  | none=>rw[lR h]at hp;cases hp
  | some x =>
   rw[lS h]at hp;have u:=qZ hg hq hu h;rcases List.mem_cons.1 hp with rfl | hp
   . exact⟨x,h,rfl,u,hu⟩
   . cases hk:((bH x.2.zone q).1.kind != 4)with
     | true=>rw[hk,if_pos rfl]at hp;cases hp
     | false=>rw[hk,if_neg (by simp)]at hp;exact Fg hg hq f _ (gQ u hk).1 p hp
theorem CY{zs:List ag}{q:bg}(hg:dB zs)(hq:b9 q=true):∀p∈iI zs q,∃x,bU zs p.1=some x/\p.2=(bH x.2.zone q).1/\Use x.2.zone q/\aM q.name p.1=true:=Fg hg hq _ _ (iW _)
/-! ### Delegations -/
def fY(a:Bs)(p:Bs×Ans):Bool:=(p.2.kind==4)&&(p.2.cut==a)
def cF(zs:List ag)(a:Bs):Option (Bs×Ans):=if a=[46]then none else(iI zs ⟨a,2⟩).find? (fY a)
theorem xO{a:Bs}(h:an a=true):b9 ⟨a,2⟩=true:=by unfold b9;rw[h];rfl
theorem IZ{a:Bs}(h:an a=true):b9 ⟨a,1⟩=true:=by unfold b9;rw[h];rfl
theorem wa{zs:List ag}(hg:dB zs){a:Bs}(ha:an a=true){p:Bs×Ans}(h:cF zs a=some p) :
 a ≠ [46]/\p.2.cut=a/\p.2.kind=4/\aM a p.1=true/\ ∃x s0 R,bU zs p.1=some x/\p.2=(bH x.2.zone ⟨a,2⟩).1/\Use x.2.zone ⟨a,2⟩/\s0∈x.2.zone.sets/\s0.place=(a,2)/\p.2.sets=s0::R/\(∀d∈s0.set.data,an d.text=true)/\s0.set.data.length<=20 /\
  ∀s∈R,s.set.type ≠ 2:=by
 unfold cF at h;split at h
 . cases h
 . rename_i hne;have hm:=List.mem_of_find?_eq_some h;have hp:=List.find?_some h;unfold fY at hp;simp only[aR,beq_iff_eq]at hp;obtain⟨x,h1,h2,u,h3⟩:=CY hg (xO ha) p hm;refine⟨hne,hp.2,hp.1,h3,x,?_⟩;cases hr:eB (vw x.2.zone ⟨a,2⟩)with
   | false =>
    have:=(u.ES hr).1;rw[<- h2,hp.1]at this;cases this
   | true =>
    obtain⟨s0,R,r1,r2,r3,r4⟩:=u.Mp hr;have hc:bx x.2.zone a=a:=by have:=hp.2;rw[h2,r3]at this;exact this
    have r2' :s0.place=(a,2):=by rw[r2];show(bx x.2.zone a,(2:Int))=_;rw[hc]
    refine⟨s0,R,h1,h2,u,r1,r2',by rw[h2,r3],zY (u.ord.set s0 r1) (congrArg Prod.snd r2'),((dG u.few).2 s0 r1).1,fun s hs e=>?_⟩;rcases r4 s hs with h | h | h <;> rw[h.1]at e <;> cases e
def cH(a:Ans):List Bs:=(a.sets.filter fun s=>(s.set.type==2)&&(s.set.name==a.cut)).flatMap fun s=>s.set.data.map (·.text)
def dQ(a:Ans)(n:Bs):Bool:=a.sets.any fun s=>(s.set.type==1)&&(s.set.name==n)
theorem o7{zs:List ag}(hg:dB zs){a:Bs}(ha:an a=true){p:Bs×Ans}(h:cF zs a=some p):∃s0 R,p.2.sets=s0::R/\cH p.2=s0.set.data.map (·.text)/\(∀n∈cH p.2,an n=true)/\(cH p.2).length<=20:=by
 obtain⟨_,hc,_,_,x,s0,R,_,_,_,_,hp,hs,hv,hl,hR⟩:=wa hg ha h;have e:cH p.2=s0.set.data.map (·.text):=by
  unfold cH;rw[hs,List.filter_cons_of_pos (by have h1:s0.set.type=2:=congrArg Prod.snd hp;have h2:s0.set.name=a:=congrArg Prod.fst hp;rw[hc,h1,h2];simp)];have:R.filter (fun s=>(s.set.type==2)&&(s.set.name==p.2.cut))=[]:=List.filter_eq_nil_iff.2 fun s hs=>by simp[hR s hs]
  rw[this];simp
 refine⟨s0,R,hs,e,fun n hn=>?_,by rw[e,ao];exact hl⟩;rw[e]at hn;obtain⟨d,hd,rfl⟩:=List.mem_map.1 hn;exact hv d hd
/-! ### gV -/
def rF(zs:List ag):Nat->Bs->Option Bs
 | 0,_=>none
 | f+1,s=>if (bU zs s).isSome=true then some s else if s=[46]then none else rF zs f (cz s)
def eE(zs:List ag)(s:Bs):Option Bs:=rF zs ((bd s).length+1) s
theorem xq{zs:List ag}:∀(f:Nat) (s:Bs),an s=true->(bd s).length<f ->
 match rF zs f s with
  | some h=>(bU zs h).isSome=true/\aM s h=true/\ ∀b,(bU zs b).isSome=true->aM s b=true->aM h b=true
  | none=> ∀b,(bU zs b).isSome=true->aM s b=false
 | 0,s,_,h=>by omega
 | f+1,s,hv,hf=>by
  unfold rF;by_cases hc:(bU zs s).isSome=true
  . rw[if_pos hc];exact⟨hc,fF s,fun b _ h=>h⟩
  . rw[if_neg hc];by_cases hs:s=[46]
    . rw[if_pos hs];intro b hb;cases hu:aM s b with
      | false=>rfl
      | true =>
       exfalso
       subst hs;have:b=[46]:=oK (iW b) hu;exact hc (this ▸ hb)
    . rw[if_neg hs];have hlt:(bd (cz s)).length<(bd s).length:=by
       obtain⟨_,_,h3⟩:=kx hv (iW s) hs;omega
      have up:∀b,(bU zs b).isSome=true->aM s b=true->aM (cz s) b=true:=fun b hb hu=>uf hv hu fun e=>hc (e ▸ hb)
      have ih:=xq (zs:=zs) f (cz s) (eV hv) (by omega);split at ih
      . rename_i h e;exact⟨ih.1,nz (tL hv) ih.2.1,fun b hb hu=>ih.2.2 b hb (up b hb hu)⟩
      . intro b hb;cases hu:aM s b with
        | false=>rfl
        | true=>exact absurd (up b hb hu) (by simp[ih b hb])
theorem rE(zs:List ag){s:Bs}(hv:an s=true):match eE zs s with
 | some h=>(bU zs h).isSome=true/\aM s h=true/\ ∀b,(bU zs b).isSome=true->aM s b=true->aM h b=true
 | none=> ∀b,(bU zs b).isSome=true->aM s b=false:=xq _ s hv (Nat.lt_succ_self _)
/-! ### Needs -/
def iM(zs:List ag)(a:Ans)(l:List Bs):List Bs:=l.filterMap fun n=>if dQ a n=true then none else eE zs n
def bI(zs:List ag)(a:Bs):List Bs:=match cF zs a with
 | none=>[]
 | some p=>Lib.compact (gE (iM zs p.2 (cH p.2)))
theorem DC{l:List Bs}{a:Bs}(h:a∈l):∃j,j<l.length/\l[j]? =some a/\Lib.keeps l.toArray j=true:=by
 obtain⟨j,hj⟩:=cd h;induction j using Nat.strongRecOn with
 | _ j ih =>
  have hlt:=(av.1 hj).1;by_cases h0:j=0
  . exact⟨j,hlt,hj,by simp[Lib.keeps,h0]⟩
  . by_cases hp:l[j-1]? =some a
    . exact ih (j-1) (by omega) hp
    . refine⟨j,hlt,hj,?_⟩;have h1:l.toArray[j]! =a:=by simp[hj]
      have h2:l.toArray[j-1]! ≠ a:=by
       intro e;apply hp;have:j-1<l.length:=by omega
       simp[ah this]at e ⊢;exact e
      simp[Lib.keeps];right;intro e;apply h2;have e' :l.toArray[j]! =l.toArray[j-1]! :=by simpa using e
      rw[<- e',h1]
theorem Dm{l:List Bs}{a:Bs}:a∈Lib.compact l ↔ a∈l:=by
 unfold Lib.compact Lib.compactUpTo;rw[List.mem_map];constructor
 . rintro⟨j,hj,rfl⟩;have:=List.mem_range.1 (List.mem_filter.1 hj).1;simp[ah this]
 . intro h;obtain⟨j,h1,h2,h3⟩:=DC h;exact⟨j,List.mem_filter.2 ⟨List.mem_range.2 h1,h3⟩,by simp[h2]⟩
theorem An{l:List Bs}(h:l.Pairwise fun a b=>aL a b<=0):(Lib.compact l).Pairwise fun a b=>aL a b= -1:=by
 unfold Lib.compact Lib.compactUpTo;rw[List.pairwise_map];have hr:((List.range l.length).filter (Lib.keeps l.toArray)).Pairwise (· < ·):=(List.pairwise_lt_range).filter _;refine hr.imp_of_mem fun{i j} hi hj hij=>?_
 have hi' :=List.mem_range.1 (List.mem_filter.1 hi).1;have hj' :=List.mem_range.1 (List.mem_filter.1 hj).1;have hk:=(List.mem_filter.1 hj).2;have ei:l.toArray[i]! =l[i]:=by simp[ah hi']
 have ej:l.toArray[j]! =l[j]:=by simp[ah hj']
 have hj1:j-1<l.length:=by omega
 have ep:l.toArray[j-1]! =l[j-1]:=by simp[ah hj1]
 have hne:l[j] ≠ l[j-1]:=by
  intro e;unfold Lib.keeps at hk;rw[ej,ep,e]at hk;simp at hk;omega
 have hP:=List.pairwise_iff_getElem.1 h;have h2:aL l[j-1] l[j]<=0:=hP (j-1) j hj1 hj' (by omega);have h1:aL l[i] l[j-1]<=0:=by
  by_cases e:i=j-1
  . subst e;rw[(aY.zero _ _).2 rfl];decide
  . exact hP i (j-1) hi' hj1 (by omega)
 rw[ei,ej];have hlt:aL l[j-1] l[j]= -1:=by
  rcases aY.range l[j-1] l[j]with e | e | e
  . exact e
  . exact absurd ((aY.zero _ _).1 e).symm hne
  . omega
 have hle:=aY.le_trans h1 h2;rcases aY.range l[i] l[j]with e | e | e
 . exact e
 . have e' :=(aY.zero _ _).1 e;rw[e']at h1;have:=aY.anti l[j-1] l[j];omega
 . omega
theorem DQ(zs:List ag)(a:Bs):(bI zs a).Pairwise fun a b=>aL a b= -1:=by
 unfold bI;split
 . exact List.Pairwise.nil
 . exact An (gS _)
theorem IN{zs:List ag}{a b:Bs}:b∈bI zs a ↔ ∃p,cF zs a=some p/\ ∃n∈cH p.2,dQ p.2 n=false/\eE zs n=some b:=by
 unfold bI;cases h:cF zs a with
 | none=>simp
 | some p =>
  simp only[Option.some.injEq,exists_eq_left'];rw[Dm,zE];unfold iM;rw[List.mem_filterMap];constructor
  . rintro⟨n,hn,hx⟩;split at hx
    . cases hx
    . rename_i hg;exact⟨n,hn,by simpa using hg,hx⟩
  . rintro⟨n,hn,hg,hx⟩;exact⟨n,hn,by rw[if_neg (by rw[hg];simp)];exact hx⟩
theorem DP(zs:List ag)(a:Bs):(bI zs a).Nodup:=by
 refine(DQ zs a).imp fun{x y} h e=>?_
 rw[(aY.zero x y).2 e]at h;cases h
theorem wk{zs:List ag}{n b:Bs}(hv:an n=true)(h:eE zs n=some b):b∈dK (dw zs):=by
 have:=rE zs hv;rw[h]at this;exact(gI zs b).2 this.1
theorem IP{zs:List ag}(hg:dB zs){a:Bs}(ha:an a=true):∀b∈bI zs a,b∈dK (dw zs):=fun b hb=>by
 obtain⟨p,hp,n,hn,_,hh⟩:=IN.1 hb;obtain⟨_,_,_,_,hv,_⟩:=o7 hg ha hp;exact wk (hv n hn) hh
theorem iV{zs:List ag}(hg:dB zs){a:Bs}(h:a∈dK (dw zs)):an a=true:=by
 obtain⟨p,hp,rfl⟩:=tw.1 h;exact(bu (hg p hp).2).apex
theorem iy{zs:List ag}{a:Bs}:a∈aw zs ↔ (bU zs a).isSome=true:=by
 unfold aw;rw[zE,gI]
theorem Dh(zs:List ag):(aw zs).Pairwise fun a b=>aL a b= -1:=D7 (mE zs)
theorem sH(zs:List ag):(aw zs).Nodup:=(fE _).nodup_iff.2 (mE zs)
theorem jy(zs:List ag):(aw zs).length<=zs.length:=by
 unfold aw dK;rw[(fE _).length_eq,ao];exact x7 zs
/-! ### Roads,and what can be reached -/
structure ur where
 there:Bool
 glue:Bool
 above:Bs
 homes:List Bs
def uN(r:ur):List D:=[.bool r.there, .bool r.glue, .str r.above, .slice 1 (r.homes.map au)]
def lr(zs:List ag)(h n:Bs):Bool:=match bU zs h with | none=>false | some x=>((bH x.2.zone ⟨n,1⟩).1.kind==1)
def fe(zs:List ag)(a:Ans)(l:List Bs):List Bs:=l.filterMap fun n=>if dQ a n=true then none else match eE zs n with | none=>none | some h=>if lr zs h n=true then some h else none
def Ms:ur:=⟨false,false,[],[]⟩
def gX(zs:List ag)(a:Bs):ur:=match cF zs a with
 | none=>Ms
 | some p=>⟨true,(cH p.2).any (dQ p.2),p.1,fe zs p.2 (cH p.2)⟩
def lE(r:ur)(f:Bs->Bool):Bool:=r.there&&f r.above&&(r.glue||r.homes.any f)
def gz(zs:List ag)(r:List Bs)(a:Bs):Bool:= !r.contains a&&((a==[46])||lE (gX zs a) r.contains)
def dD(zs:List ag)(r:List Bs)(a:Bs):List Bs:=if gz zs r a=true then r++[a]else r
def nr(zs:List ag)(r:List Bs)(l:List Bs):List Bs:=l.foldl (dD zs) r
def ff(zs:List ag)(r:List Bs):List Bs:=nr zs r (aw zs)
def mw(zs:List ag):Nat->List Bs->List Bs
 | 0,r=>r
 | k+1,r=>mw zs k (ff zs r)
def dN(zs:List ag):List Bs:=mw zs ((aw zs).length+1) []
def bt(zs:List ag):List Bs:=(aw zs).filter fun a=> !(dN zs).contains a
/-! ### Least loops -/
def mz(be:List (Bs×Bs))(n:Bs):Bool:=be.any fun p=>p.1==n
def oD(be:List (Bs×Bs))(n:Bs):Bs:=match be.find? (fun p=>p.1==n)with | some p=>p.2 | none=>[]
def dm(zone at_:Bs):List Bs->List Bs->List (Bs×Bs)->Bool×List Bs×List (Bs×Bs)
 | [],qu,be=>(false,qu,be)
 | n::t,qu,be=>if n=zone then(true,qu,be)else if mz be n=true then dm zone at_ t qu be else dm zone at_ t (qu++[n]) (be++[(n,at_)])
def yn(zs:List ag)(zone:Bs):Nat->List Bs->List (Bs×Bs)->Option (Bs×List (Bs×Bs))
 | 0,_,_=>none
 | _+1,[],_=>none
 | f+1,a::qu,be=>if (dm zone a (bI zs a) qu be).1=true then some (a,(dm zone a (bI zs a) qu be).2.2)else yn zs zone f (dm zone a (bI zs a) qu be).2.1 (dm zone a (bI zs a) qu be).2.2
def pQ(be:List (Bs×Bs))(zone:Bs):Nat->Bs->List Bs
 | 0,_=>[]
 | f+1,last=>if last=zone then[]else oD be last::pQ be zone f (oD be last)
def B6(zs:List ag)(zone:Bs):List Bs:=match yn zs zone (2*(aw zs).length+2) [zone] []with
 | none=>[]
 | some x=>(x.1::pQ x.2 zone (x.2.length+1) x.1).reverse
/-! ### Loops of aliases -/
def Gb(a:Ans):Bs:=match a.sets.head? with | some s=>(match s.set.data.head? with | some d=>d.text | none=>[]) | none=>[]
def oB(zs:List ag)(s:Bs):Option Bs:=if ((gL zs ⟨s,1⟩).2&&((gL zs ⟨s,1⟩).1.kind==3))=true then some (Gb (gL zs ⟨s,1⟩).1)else none
def jI(zs:List ag):Nat->List Bs->Bs->List Bs×Bool
 | 0,_,_=>([],false)
 | f+1,met,s=>if met.contains s=true then(met.drop (met.idxOf s),true)else match oB zs s with
  | none=>([],false)
  | some n=>jI zs f (met++[s]) n
def gU(zs:List ag):List Bs:=zs.flatMap fun p=>p.zone.sets.flatMap fun s=>s.set.data.map (·.text)
def A0(zs:List ag)(s:Bs):List Bs×Bool:=jI zs ((gU zs).length+2) [] s
/-! ### What can be reached -/
theorem tk(zs:List ag)(r:List Bs)(a:Bs):(dD zs r a).length=r.length+(if gz zs r a=true then 1 else 0):=by
 unfold dD;split <;> simp
theorem pI(zs:List ag):∀(l r:List Bs),r.length<=(nr zs r l).length
 | [],r=>Nat.le_refl _
 | a::l,r=>by
  have h1:=pI zs l (dD zs r a);have h2:=tk zs r a;show r.length<=(nr zs (dD zs r a) l).length
  omega
theorem pH{zs:List ag}:∀{l r:List Bs},(nr zs r l).length=r.length->nr zs r l=r/\ ∀a∈l,gz zs r a=false
 | [],r,h=>⟨rfl,fun a ha=>by cases ha⟩
 | a::l,r,h=>by
  have h:(nr zs (dD zs r a) l).length=r.length:=h;have h1:=pI zs l (dD zs r a);have h2:=tk zs r a;have hg:gz zs r a=false:=by
   cases e:gz zs r a with
   | false=>rfl
   | true=>rw[e]at h2;simp at h2;omega
  have he:dD zs r a=r:=by unfold dD;rw[if_neg (by rw[hg];simp)]
  have ih:=pH (zs:=zs) (l:=l) (r:=r) (by rw[he]at h;exact h);refine⟨?_,fun b hb=>?_⟩
  . show nr zs (dD zs r a) l=r
    rw[he];exact ih.1
  . rcases List.mem_cons.1 hb with rfl | hb
    . exact hg
    . exact ih.2 b hb
theorem xI{r:ur}{f g:Bs->Bool}(h:∀x,f x=true->g x=true)(ho:lE r f=true):lE r g=true:=by
 unfold lE at ho ⊢;simp only[aR,Bool.or_eq_true]at ho ⊢;refine⟨⟨ho.1.1,h _ ho.1.2⟩,?_⟩;rcases ho.2 with h1 | h1
 . exact .inl h1
 . obtain⟨x,hx,hf⟩:=List.any_eq_true.1 h1;exact .inr (List.any_eq_true.2 ⟨x,hx,h x hf⟩)
structure Reach(zs:List ag)(r:List Bs):Prop where
 nodup:r.Nodup
 sub:∀a∈r,a∈aw zs
 why:∀a∈r,a=[46]\/lE (gX zs a) r.contains=true
theorem Reach.nil(zs:List ag):Reach zs []:=⟨List.nodup_nil,(fun a h=>by cases h),(fun a h=>by cases h)⟩
theorem Reach.step{zs:List ag}{r:List Bs}{a:Bs}(h:Reach zs r)(ha:a∈aw zs):Reach zs (dD zs r a):=by
 unfold dD;split
 . rename_i hg;unfold gz at hg;simp only[aR,Bool.not_eq_true',Bool.or_eq_true,beq_iff_eq]at hg;have hna:a ∉ r:=fun hm=>by have:=hg.1;simp[hm]at this
   have hmono:∀x,r.contains x=true->(r++[a]).contains x=true:=fun x hx=>by
    simp only[cr,List.mem_append]at hx ⊢;exact .inl hx
   refine⟨List.nodup_append.2 ⟨h.nodup,by simp,fun x hx y hy=>by rw[List.mem_singleton]at hy;subst hy;rintro rfl;exact hna hx⟩,fun x hx=>?_,fun x hx=>?_⟩
   . rcases List.mem_append.1 hx with hx | hx
     . exact h.sub x hx
     . rw[List.mem_singleton.1 hx];exact ha
   . rcases List.mem_append.1 hx with hx | hx
     . rcases h.why x hx with h1 | h1
       . exact .inl h1
       . exact .inr (xI hmono h1)
     . rw[List.mem_singleton.1 hx];rcases hg.2 with h1 | h1
       . exact .inl h1
       . exact .inr (xI hmono h1)
 . exact h
theorem Reach.grow{zs:List ag}:∀{l r:List Bs},Reach zs r->(∀a∈l,a∈aw zs)->Reach zs (nr zs r l)
 | [],r,h,_=>h
 | a::l,r,h,hl=>Reach.grow (l:=l) (h.step (hl a (List.mem_cons_self ..))) fun b hb=>hl b (aW _ hb)
theorem jC:∀{l m:List Bs},l.Nodup->(∀a∈l,a∈m)->l.length<=m.length
 | [],m,_,_=>Nat.zero_le _
 | a::l,m,h,hs=>by
  obtain⟨h1,h2⟩:=List.nodup_cons.1 h;have ha:=hs a (List.mem_cons_self ..);have:=jC (l:=l) (m:=m.erase a) h2 fun b hb=>(List.mem_erase_of_ne (fun(e:b=a)=>h1 (e ▸ hb))).2 (hs b (aW _ hb))
  rw[List.length_erase_of_mem ha]at this;have hp:=List.length_pos_of_mem ha;simp only[List.length_cons];omega
theorem Reach.len{zs:List ag}{r:List Bs}(h:Reach zs r):r.length<=(aw zs).length:=jC h.nodup h.sub
theorem Reach.next{zs:List ag}{r:List Bs}(h:Reach zs r):Reach zs (ff zs r):=Reach.grow h fun a ha=>ha
theorem rW{zs:List ag}{r:List Bs}(h:ff zs r=r):∀k,mw zs k r=r
 | 0=>rfl
 | k+1=>by rw[mw,h];exact rW h k
theorem zO{zs:List ag}:∀(k:Nat) (r:List Bs),Reach zs r->(aw zs).length<k+r.length->Reach zs (mw zs k r)/\ff zs (mw zs k r)=mw zs k r
 | 0,r,h,hk=>by have:=h.len;omega
 | k+1,r,h,hk=>by
  by_cases e:(ff zs r).length=r.length
  . have:=(pH e).1;have hf:ff zs r=r:=this;rw[rW hf];exact⟨h,hf⟩
  . have hl:=pI zs (aw zs) r;have hl:r.length<=(ff zs r).length:=hl;rw[mw];exact zO k _ h.next (by omega)
theorem zP(zs:List ag):Reach zs (dN zs)/\ff zs (dN zs)=dN zs:=zO _ _ (Reach.nil zs) (by simp)
theorem I3{zs:List ag}{a:Bs}(ha:a∈aw zs):(dN zs).contains a=((a==[46])||lE (gX zs a) (dN zs).contains):=by
 obtain⟨h1,h2⟩:=zP zs;rw[Bool.eq_iff_iff,Bool.or_eq_true,beq_iff_eq];constructor
 . intro h;exact h1.why a (by simpa using h)
 . intro h;have hf:gz zs (dN zs) a=false:=(pH (zs:=zs) (l:=aw zs) (r:=dN zs) (by show(ff zs (dN zs)).length=_;rw[h2])).2 a ha;unfold gz at hf;cases e:(dN zs).contains a with
   | true=>rfl
   | false =>
    rw[e]at hf;simp only[aI,aF,Bool.or_eq_false_iff,beq_eq_false_iff_ne]at hf;rcases h with h | h
    . exact absurd h hf.1
    . rw[hf.2]at h;cases h
theorem sn{zs:List ag}{a:Bs}(ha:a∈aw zs):(bt zs).contains a= !(dN zs).contains a:=by
 unfold bt;rw[Bool.eq_iff_iff];simp only[cr,List.mem_filter];simp[ha]
theorem En(zs:List ag):(bt zs).Pairwise fun a b=>aL a b= -1:=(Dh zs).filter _
def lD(zs:List ag)(a:Ans)(h:Bs)(r:Bs->Bool):Bool:=dQ a h||(match eE zs h with | none=>false | some b=>r b&&lr zs b h)
theorem I6{zs:List ag}{a:Bs}{f:Bs->Bool}:lE (gX zs a) f=match cF zs a with | none=>false | some p=>f p.1&&(cH p.2).any fun h=>lD zs p.2 h f:=by
 unfold gX;cases cF zs a with
 | none=>rfl
 | some p =>
  unfold lE;show(true&&f p.1&&((cH p.2).any (dQ p.2)||(fe zs p.2 (cH p.2)).any f))=(f p.1&&(cH p.2).any fun h=>lD zs p.2 h f)
  rw[aF]
  congr 1
  rw[Bool.eq_iff_iff,Bool.or_eq_true];simp only[List.any_eq_true];unfold fe;constructor
  . rintro(⟨n,hn,hg⟩ | ⟨b,hb,hf⟩)
    . exact⟨n,hn,by unfold lD;rw[hg];rfl⟩
    . obtain⟨n,hn,hx⟩:=List.mem_filterMap.1 hb;refine⟨n,hn,?_⟩;unfold lD;split at hx
      . cases hx
      . split at hx
        . cases hx
        . rename_i b' hh;split at hx
          . rename_i hk;cases hx
            (try rw[hh]);simp[hf,hk]
          . cases hx
  . rintro⟨n,hn,hx⟩;unfold lD at hx;cases hg:dQ p.2 n with
    | true=>exact .inl ⟨n,hn,hg⟩
    | false =>
     rw[hg,aC]at hx;cases hh:eE zs n with
     | none=>rw[hh]at hx;cases hx
     | some b =>
      rw[hh]at hx;simp only[aR]at hx;exact .inr ⟨b,List.mem_filterMap.2 ⟨n,hn,by rw[hg,hh];simp[hx.2]⟩,hx.1⟩
/-! ### Loops of aliases -/
theorem Na{zs:List ag}(hg:dB zs){s n:Bs}(hs:an s=true)(h:oB zs s=some n):an n=true/\n∈gU zs/\ ∃a t R d,gL zs ⟨s,1⟩=(a,true)/\a.kind=3/\a.sets=t::R/\t.set.data=[d]/\d.text=n:=by
 unfold oB at h;split at h
 . rename_i hc;simp only[aR,beq_iff_eq]at hc;cases hr:gL zs ⟨s,1⟩with
   | mk a ok =>
    rw[hr]at hc h;obtain⟨rfl,hk⟩:=hc;obtain⟨p,hp,u,rfl,_⟩:=Cy hg (IZ hs) hr;obtain⟨t,R,d,h1,h2,h3,h4,h5⟩:=u.NR hk;have e:Gb (bH p.zone ⟨s,1⟩).1=d.text:=by unfold Gb;rw[h1];simp[h4]
    rw[e]at h;cases h;refine⟨h5,?_,_,t,R,d,rfl,hk,h1,h4,rfl⟩;unfold gU;exact List.mem_flatMap.2 ⟨p,hp,List.mem_flatMap.2 ⟨t,h2,List.mem_map.2 ⟨d,by rw[h4];exact List.mem_cons_self .., rfl⟩⟩⟩
 . cases h
def Fh(zs:List ag)(met:List Bs)(s:Bs):Prop:= ∀(i:Nat) n,met[i]? =some n-> ∃m,(met++[s])[i+1]? =some m/\oB zs n=some m
theorem Fh.next{zs:List ag}{met:List Bs}{s n:Bs}(h:Fh zs met s)(hl:oB zs s=some n):Fh zs (met++[s]) n:=fun i m hi=>by
 by_cases hlt:i<met.length
 . rw[bM hlt]at hi;obtain⟨x,hx,hxl⟩:=h i m hi;refine⟨x,?_,hxl⟩;rw[bM (by simp;omega)];exact hx
 . have:i=met.length:=by
    have:=(av.1 hi).1;simp at this;omega
   subst this;rw[bQ (Nat.le_refl _),Nat.sub_self]at hi;cases hi;refine⟨n,?_,hl⟩;rw[bQ (by simp)];simp
section
variable {zs zs' :List ag} (h:∀a,(bU zs a).map (·.2)=(bU zs' a).map (·.2))
include h
end
theorem tI{l:List Bs}(h:l.Nodup){i j:Nat}{a:Bs}(hi:l[i]? =some a)(hj:l[j]? =some a):i=j:=by
 obtain⟨b1,e1⟩:=av.1 hi;obtain⟨b2,e2⟩:=av.1 hj;have hp:=List.pairwise_iff_getElem.1 h;rcases Nat.lt_trichotomy i j with hlt | rfl | hlt
 . exact absurd (e1.trans e2.symm) (hp i j b1 b2 hlt)
 . rfl
 . exact absurd (e2.trans e1.symm) (hp j i b2 b1 hlt)
structure iN(zs:List ag)(zone:Bs)(P Q:List Bs)(be:List (Bs×Bs))(ds:List Nat):Prop where
 all:P++Q=zone::be.map (·.1)
 nodup:(zone::be.map (·.1)).Nodup
 len:ds.length=be.length+1
 zero:ds[0]? =some 0
 mono:ds.Pairwise (· <= ·)
 near:∀(j:Nat) d d0,ds[j]? =some d->ds[P.length]? =some d0->d<=d0+1
 par:∀(j:Nat) n a,be[j]? =some (n,a)->n∈bI zs a/\ ∃i d:Nat,i<=j/\(zone::be.map (·.1))[i]? =some a/\ds[i]? =some d/\ds[j+1]? =some (d+1)
 done:∀(i:Nat) a,i<P.length->(P++Q)[i]? =some a->zone ∉ bI zs a/\ ∀n∈bI zs a,∃j d d' :Nat,(P++Q)[j]? =some n/\ds[i]? =some d/\ds[j]? =some d' /\d' <=d+1
 keys:∀p∈be,p.1∈aw zs
theorem iN.start(zs:List ag)(zone:Bs):iN zs zone [] [zone] [] [0] :=
 ⟨rfl,by simp,rfl,rfl,by simp,fun j d d0 hj h0=>by
  rcases j with _ | j
  . cases hj;omega
  . simp at hj,fun j n a h=>by simp at h,fun i a h=>by simp at h,fun p hp=>by cases hp⟩
theorem wJ{be:List (Bs×Bs)}{n:Bs}:mz be n=true ↔ n∈be.map (·.1):=by
 unfold mz;rw[List.any_eq_true,List.mem_map];constructor
 . rintro⟨p,hp,he⟩;exact⟨p,hp,by simpa using he⟩
 . rintro⟨p,hp,rfl⟩;exact⟨p,hp,by simp⟩
theorem iN.push{zs:List ag}{zone a n:Bs}{P qu:List Bs}{be:List (Bs×Bs)}{ds:List Nat}(h:iN zs zone P (a::qu) be ds)(hn:n∈bI zs a)(hz:n ≠ zone)(hs:mz be n=false)(hk:n∈aw zs) :
 ∃d0,ds[P.length]? =some d0/\iN zs zone P (a::(qu++[n])) (be++[(n,a)]) (ds++[d0+1])/\(P++a::(qu++[n]))[be.length+1]? =some n/\(ds++[d0+1])[be.length+1]? =some (d0+1):=by
 have hpl:P.length<ds.length:=by
  have:=congrArg List.length h.all;simp at this;rw[h.len];omega
 obtain⟨d0,hd0⟩:∃d0,ds[P.length]? =some d0:=⟨_,ah hpl⟩
 have hall:P++a::(qu++[n])=zone::(be++[(n,a)]).map (·.1):=by
  have:P++a::(qu++[n])=(P++a::qu)++[n]:=by simp
  rw[this,h.all];simp
 have hold:∀{j:Nat} {d:Nat},ds[j]? =some d->(ds++[d0+1])[j]? =some d:=fun{j d} hj=>by
  rw[bM (av.1 hj).1];exact hj
 have hLa:(P++a::qu)[P.length]? =some a:=by rw[bQ (Nat.le_refl _)];simp
 have hlast:(ds++[d0+1])[be.length+1]? =some (d0+1):=by rw[<- h.len];simp
 have hLold:∀{j:Nat} {x:Bs},(P++a::qu)[j]? =some x->(P++a::(qu++[n]))[j]? =some x:=fun{j x} hj=>by
  have:P++a::(qu++[n])=(P++a::qu)++[n]:=by simp
  rw[this,bM (av.1 hj).1];exact hj
 have hlen1:(P++a::qu).length=be.length+1:=by rw[h.all];simp
 have hLn:(P++a::(qu++[n]))[be.length+1]? =some n:=by
  have:P++a::(qu++[n])=(P++a::qu)++[n]:=by simp
  rw[this, <- hlen1];simp
 have hnk:n ∉ be.map (·.1):=fun hm=>by rw[wJ.2 hm]at hs;cases hs
 refine⟨d0,hd0,⟨hall,?_,by simp[h.len],hold h.zero,?_,fun j d e hj he=>?_,fun j m b hj=>?_,fun i b hi hb=>?_,fun p hp=>?_⟩,hLn,hlast⟩
 . rw[List.map_append];show((zone::be.map (·.1))++[n]).Nodup
   refine List.nodup_append.2 ⟨h.nodup,by simp,fun x hx y hy=>?_⟩;rw[List.mem_singleton]at hy;subst hy;rintro rfl;rcases List.mem_cons.1 hx with hx | hx
   . exact hz hx
   . exact hnk hx
 . refine List.pairwise_append.2 ⟨h.mono,by simp,fun x hx y hy=>?_⟩;rw[List.mem_singleton]at hy;subst hy;obtain⟨j,hj⟩:=cd hx;exact h.near j x d0 hj hd0
 . rw[hold hd0]at he;cases he;by_cases hl:j<ds.length
   . rw[bM hl]at hj;exact h.near j d d0 hj hd0
   . have:j=ds.length:=by
      have:=(av.1 hj).1;simp at this;omega
     subst this;simp at hj;omega
 . by_cases hl:j<be.length
   . rw[bM hl]at hj;obtain⟨h1,i,d,h2,h3,h4,h5⟩:=h.par j m b hj;refine⟨h1,i,d,h2,?_,hold h4,hold h5⟩;rw[<- hall];rw[<- h.all]at h3;exact hLold h3
   . have:j=be.length:=by
      have:=(av.1 hj).1;simp at this;omega
     subst this;rw[bQ (Nat.le_refl _),Nat.sub_self]at hj;cases hj;refine⟨hn,P.length,d0,?_,?_,hold hd0,hlast⟩
     . rw[h.len]at hpl;omega
     . rw[<- hall];exact hLold hLa
 . have hb' :(P++a::qu)[i]? =some b:=by
    rw[bM hi]at hb ⊢;exact hb
   obtain⟨h1,h2⟩:=h.done i b hi hb';refine⟨h1,fun m hm=>?_⟩;obtain⟨j,d,d',e1,e2,e3,e4⟩:=h2 m hm;exact⟨j,d,d',hLold e1,hold e2,hold e3,e4⟩
 . rcases List.mem_append.1 hp with hp | hp
   . exact h.keys p hp
   . rw[List.mem_singleton.1 hp];exact hk
theorem yS{zs:List ag}{zone a:Bs}(hkeys:∀n∈bI zs a,n∈aw zs){P:List Bs}:∀(t qu:List Bs) (be:List (Bs×Bs)) (ds:List Nat),iN zs zone P (a::qu) be ds->(∀n∈t,n∈bI zs a) ->
 ∃ds',iN zs zone P (a::(dm zone a t qu be).2.1) (dm zone a t qu be).2.2 ds' /\((dm zone a t qu be).1=true->zone∈t) /\
  ((dm zone a t qu be).1=false->zone ∉ t/\ ∀n∈t,∃j d d' :Nat,(P++a::(dm zone a t qu be).2.1)[j]? =some n/\ds'[P.length]? =some d/\ds'[j]? =some d' /\d' <=d+1) /\
  ((dm zone a t qu be).2.1.length+be.length=(dm zone a t qu be).2.2.length+qu.length) /\
  (∀(j:Nat) x,(P++a::qu)[j]? =some x->(P++a::(dm zone a t qu be).2.1)[j]? =some x)/\(∀(j:Nat) d,ds[j]? =some d->ds'[j]? =some d)
 | [],qu,be,ds,h,_=>⟨ds,h,fun e=>(by cases e),fun _=>⟨by simp,fun n hn=>by cases hn⟩,(by show qu.length+be.length=be.length+qu.length;omega),fun j x h=>h,fun j d h=>h⟩
 | n::t,qu,be,ds,h,ht=>by
  have hn:=ht n (List.mem_cons_self ..);have ht' :∀m∈t,m∈bI zs a:=fun m hm=>ht m (aW _ hm)
  unfold dm;by_cases hz:n=zone
  . rw[if_pos hz];exact⟨ds,h,fun _=>hz ▸ List.mem_cons_self .., fun e=>(by cases e),(by show qu.length+be.length=be.length+qu.length;omega),fun j x h=>h,fun j d h=>h⟩
  . rw[if_neg hz];have hpl:P.length<ds.length:=by
     have:=congrArg List.length h.all;simp at this;rw[h.len];omega
    obtain⟨d0,hd0⟩:∃d0,ds[P.length]? =some d0:=⟨_,ah hpl⟩
    by_cases hs:mz be n=true
    . rw[if_pos hs];obtain⟨ds',i1,i2,i3,i4,i5,i6⟩:=yS hkeys t qu be ds h ht';refine⟨ds',i1,fun e=>aW _ (i2 e),fun e=>?_,i4,i5,i6⟩;obtain⟨j1,j2⟩:=i3 e;refine⟨fun hm=>?_,fun m hm=>?_⟩
      . rcases List.mem_cons.1 hm with hm | hm
        . exact hz hm.symm
        . exact j1 hm
      . rcases List.mem_cons.1 hm with rfl | hm
        . obtain⟨j,hj⟩:=cd (wJ.1 hs);have hL:(P++a::qu)[j+1]? =some m:=by rw[h.all];simpa using hj
          have hjl:j+1<ds.length:=by
           have:=(av.1 hj).1;simp at this;rw[h.len];omega
          obtain⟨d',hd'⟩:∃d',ds[j+1]? =some d' :=⟨_,ah hjl⟩
          exact⟨j+1,d0,d',i5 _ _ hL,i6 _ _ hd0,i6 _ _ hd',h.near _ _ _ hd' hd0⟩
        . exact j2 m hm
    . rw[if_neg hs];obtain⟨d0',e1,e2,e3,e4⟩:=h.push hn hz (by simpa using hs) (hkeys n hn);rw[hd0]at e1;cases e1;obtain⟨ds',i1,i2,i3,i4,i5,i6⟩:=yS hkeys t (qu++[n]) (be++[(n,a)]) (ds++[d0+1]) e2 ht';have hold:∀(j:Nat) d,ds[j]? =some d->ds'[j]? =some d:=fun j d hj=>i6 j d (by rw[bM (av.1 hj).1];exact hj)
      refine⟨ds',i1,fun e=>aW _ (i2 e),fun e=>?_,?_,fun j x hj=>i5 j x ?_,hold⟩
      . obtain⟨j1,j2⟩:=i3 e;refine⟨fun hm=>?_,fun m hm=>?_⟩
        . rcases List.mem_cons.1 hm with hm | hm
          . exact hz hm.symm
          . exact j1 hm
        . rcases List.mem_cons.1 hm with rfl | hm
          . exact⟨be.length+1,d0,d0+1,i5 _ _ e3,hold _ _ hd0,i6 _ _ e4,Nat.le_refl _⟩
          . exact j2 m hm
      . simp at i4;omega
      . have:P++a::(qu++[n])=(P++a::qu)++[n]:=by simp
        rw[this,bM (av.1 hj).1];exact hj
theorem iN.next{zs:List ag}{zone a:Bs}{P qu:List Bs}{be:List (Bs×Bs)}{ds:List Nat}(h:iN zs zone P (a::qu) be ds)(hz:zone ∉ bI zs a)
 (hn:∀n∈bI zs a,∃j d d' :Nat,(P++a::qu)[j]? =some n/\ds[P.length]? =some d/\ds[j]? =some d' /\d' <=d+1):iN zs zone (P++[a]) qu be ds:=by
 have e:(P++[a])++qu=P++a::qu:=by simp
 refine⟨by rw[e];exact h.all,h.nodup,h.len,h.zero,h.mono,fun j d d1 hj h1=>?_,h.par,fun i b hi hb=>?_,h.keys⟩
 . have hl:(P++[a]).length=P.length+1:=by simp
   rw[hl]at h1;have hlt:=(av.1 h1).1;have h0:ds[P.length]? =some ds[P.length]:=ah (by omega);have h2:=h.near j d _ hj h0;have h3:ds[P.length]<=ds[P.length+1]:=List.pairwise_iff_getElem.1 h.mono _ _ (by omega) hlt (by omega);have h4:ds[P.length+1]=d1:=(av.1 h1).2;omega
 . rw[e]at hb ⊢;by_cases hl:i<P.length
   . exact h.done i b hl hb
   . have:i=P.length:=by simp at hi;omega
     subst this;have:b=a:=by
      rw[bQ (Nat.le_refl _),Nat.sub_self]at hb;cases hb;rfl
     subst this;exact⟨hz,hn⟩
theorem iN.Bb{zs:List ag}{zone:Bs}{P Q:List Bs}{be:List (Bs×Bs)}{ds:List Nat}(h:iN zs zone P Q be ds):be.length<=(aw zs).length:=by
 have h1:(be.map (·.1)).Nodup:=(List.nodup_cons.1 h.nodup).2;have:=jC h1 (m:=aw zs) fun a ha=>by
  obtain⟨p,hp,rfl⟩:=List.mem_map.1 ha;exact h.keys p hp
 simpa using this
theorem Ns{zs:List ag}{zone:Bs}{P Q:List Bs}{be:List (Bs×Bs)}{ds:List Nat}(h:iN zs zone P Q be ds){j:Nat}{n a:Bs}(hj:be[j]? =some (n,a)):oD be n=a:=by
 unfold oD;have hnd:(be.map (·.1)).Nodup:=(List.nodup_cons.1 h.nodup).2;cases hf:be.find? (fun p=>p.1==n)with
 | none =>
  have:=List.find?_eq_none.1 hf (n,a) (ar hj);simp at this
 | some p =>
  have h1:=List.mem_of_find?_eq_some hf;have h2:p.1=n:=by have:=List.find?_some hf;simpa using this
  obtain⟨i,hi⟩:=cd h1;have hij:i=j:=by
   have a1:(be.map (·.1))[i]? =some n:=by rw[aV,hi];simp[h2]
   have a2:(be.map (·.1))[j]? =some n:=by rw[aV,hj];rfl
   exact tI hnd a1 a2
  subst hij;rw[hi]at hj;cases hj;rfl
/-! ### gV -/
theorem HH{zs:List ag}{s:Bs}(hs:an s=true)(hz:∀p∈zs,an p.zone.apex=true):(ov zs (-1) s []).map (fun x=>x.2.zone.apex)=eE zs s:=by
 have sp:=rE zs hs;cases hd:ov zs (-1) s []with
 | none =>
  unfold ov at hd;rw[pz]at hd;cases hF:eE zs s with
  | none=>rfl
  | some h =>
   rw[hF]at sp;obtain⟨x,hx⟩:=Option.isSome_iff_exists.1 sp.1;obtain⟨h1,h2⟩:=kG hx;have:=hd.2 x.2 h1;rw[rA (hz _ h1),h2,sp.2.1]at this;cases this
 | some x =>
  obtain⟨h1,h2,h3⟩:=Ks hd;rw[rA (hz _ h1)]at h2;have hxs:(bU zs x.2.zone.apex).isSome=true:=by
   cases hc:bU zs x.2.zone.apex with
   | none=>exact absurd rfl (Hu.1 hc x.2 h1)
   | some y=>rfl
  cases hF:eE zs s with
  | none =>
   rw[hF]at sp;have:=sp _ hxs;rw[h2]at this;cases this
  | some h =>
   rw[hF]at sp;obtain⟨y,hy⟩:=Option.isSome_iff_exists.1 sp.1;obtain⟨g1,g2⟩:=kG hy;have hle:=h3 y.2 g1 (by rw[rA (hz _ g1),g2];exact sp.2.1);have u1:aM x.2.zone.apex h=true:=AB sp.2.1 h2 (by unfold BW at hle;rw[g2]at hle;exact hle);have u2:=sp.2.2 _ hxs h2;exact congrArg some (oK u1 u2)
def la(l:List Bs)(s:Bs):List Bs:=if l.contains s=true then l else qh s l
theorem NN{l:List Bs}{s:Bs}(h1:l.Pairwise fun a b=>aL a b<=0)(h2:l.Nodup):((la l s).Pairwise fun a b=>aL a b<=0)/\(la l s).Nodup/\ ∀x,x∈la l s ↔ x∈l\/x=s:=by
 unfold la;by_cases hc:l.contains s=true
 . rw[if_pos hc];have hm:=cr.1 hc;exact⟨h1,h2,fun x=>⟨.inl,fun h=>h.elim id fun e=>e ▸ hm⟩⟩
 . rw[if_neg hc];have hm:s ∉ l:=fun e=>hc (cr.2 e)
   refine⟨qi s l h1,(lW s l).nodup_iff.2 (List.nodup_cons.2 ⟨hm,h2⟩),fun x=>?_⟩;rw[(lW s l).mem_iff,List.mem_cons];exact Or.comm
def iZ(zs:List ag)(out:List Bs):List Bs:=zs.foldl (fun out p=>la out p.zone.apex) out
theorem vQ:∀(zs:List ag) (out:List Bs),(out.Pairwise fun a b=>aL a b<=0)->out.Nodup->((iZ zs out).Pairwise fun a b=>aL a b<=0)/\(iZ zs out).Nodup/\ ∀x,x∈iZ zs out ↔ x∈out\/ ∃p∈zs,p.zone.apex=x
 | [],out,h1,h2=>⟨h1,h2,fun x=>by simp[iZ]⟩
 | p::t,out,h1,h2=>by
  obtain⟨k1,k2,k3⟩:=NN (s:=p.zone.apex) h1 h2;obtain⟨r1,r2,r3⟩:=vQ t (la out p.zone.apex) k1 k2;refine⟨r1,r2,fun x=>(r3 x).trans ?_⟩;rw[k3];constructor
  . rintro((h | h) | ⟨q,hq,e⟩)
    . exact .inl h
    . exact .inr ⟨p,List.mem_cons_self .., h.symm⟩
    . exact .inr ⟨q,aW _ hq,e⟩
  . rintro(h | ⟨q,hq,e⟩)
    . exact .inl (.inl h)
    . rcases List.mem_cons.1 hq with rfl | hq
      . exact .inl (.inr e.symm)
      . exact .inr ⟨q,hq,e⟩
theorem JV(zs:List ag):iZ zs []=aw zs:=by
 obtain⟨r1,r2,r3⟩:=vQ zs [] List.Pairwise.nil List.nodup_nil;unfold aw;refine qt (((List.perm_ext_iff_of_nodup r2 (mE zs)).2 fun x=>?_).trans (fE _).symm) r1 (gS _);rw[r3,tw];simp
theorem Fq(l:List ag)(p:ag)(out:List Bs):iZ (l++[p]) out=la (iZ l out) p.zone.apex:=by unfold iZ;rw[List.foldl_append];rfl
theorem za:∀(zs:List ag) (out:List Bs),(iZ zs out).length<=out.length+zs.length
 | [],out=>by simp[iZ]
 | p::t,out=>by
  have:=za t (la out p.zone.apex);have h2:(la out p.zone.apex).length<=out.length+1:=by
   unfold la;split
   . omega
   . rw[(lW _ _).length_eq];simp
  show(iZ t (la out p.zone.apex)).length<=_
  rw[List.length_cons];omega
theorem NX{x s:Bs}(hne:x ≠ s):decide (aL x s>0)=decide (aL s x<=0):=by
 have h1:=aY.anti x s;have h2:aL s x ≠ 0:=fun e=>hne ((aY.zero s x).1 e).symm
 by_cases h:aL s x<=0
 . rw[decide_eq_true h,decide_eq_true (by omega)]
 . rw[decide_eq_false h,decide_eq_false (by omega)]
/-! ### Delegations -/
theorem FI(zs : List ag)(a x : Bs)(f : Nat) : (ju zs ⟨a, 2⟩ (f + 1) x).find? (fY a) = match bU zs x with
  | none=>none
  | some y=>if ((bH y.2.zone ⟨a,2⟩).1.kind != 4)=true then none else if ((bH y.2.zone ⟨a,2⟩).1.cut==a)=true then some (x,(bH y.2.zone ⟨a,2⟩).1)else(ju zs ⟨a,2⟩ f (bH y.2.zone ⟨a,2⟩).1.cut).find? (fY a):=by
 cases h:bU zs x with
 | none=>rw[lR h];rfl
 | some y =>
  rw[lS h];dsimp only;cases hk:((bH y.2.zone ⟨a,2⟩).1.kind != 4)with
  | true =>
   have hk' :((bH y.2.zone ⟨a,2⟩).1.kind==4)=false:=by simpa [bne] using hk
   rw[if_pos rfl,if_pos rfl,List.find?_cons_of_neg (by unfold fY;rw[hk'];simp)];rfl
  | false =>
   have hk' :((bH y.2.zone ⟨a,2⟩).1.kind==4)=true:=by simpa [bne] using hk
   rw[if_neg (by simp),if_neg (by simp)];cases hc:((bH y.2.zone ⟨a,2⟩).1.cut==a)with
   | true=>rw[if_pos rfl,List.find?_cons_of_pos (by unfold fY;rw[hk',hc];rfl)]
   | false=>rw[if_neg (by simp),List.find?_cons_of_neg (by unfold fY;rw[hk',hc];simp)]
/-! ### Names in a map -/
def ga(r:List Bs):List (Bs×D):=r.map fun a=>(a, .bool true)
theorem gD(a:Bs):∀r:List Bs,cJ a (ga r)=if r.contains a=true then some (.bool true)else none
 | []=>rfl
 | b::t=>by
  show(if a=b then _ else cJ a (ga t))=_
  rw[gD a t,List.contains_cons];by_cases h:a=b
  . subst h;simp
  . rw[if_neg h,show(a==b)=false by simpa using h,aC]
theorem tT{a:Bs}:∀{r:List Bs},r.contains a=false->cM a (.bool true) (ga r)=ga (r++[a])
 | [],_=>rfl
 | b::t,h=>by
  rw[List.contains_cons,Bool.or_eq_false_iff]at h;have hne:¬a=b:=by simpa using h.1
  show(if a=b then _ else(b,_)::cM a _ (ga t))=_
  rw[if_neg hne,tT h.2];rfl
def OS(r:List Bs)(a:Bs):List Bs:=if r.contains a=true then r else r++[a]
def eM(l r:List Bs):List Bs:=l.foldl OS r
theorem xj(p:Bs->Bool):∀l:List Bs,(l.filter p).length+(l.filter fun a=> !p a).length=l.length
 | []=>rfl
 | a::t=>by
  have:=xj p t;cases h:p a <;> simp[List.filter_cons,h] <;> omega
theorem xQ(zs:List ag):(aw zs).filter (fun z=> !(bt zs).contains z)=(aw zs).filter (dN zs).contains:=by
 refine List.filter_congr fun z hz=>?_
 rw[sn hz,aJ]
theorem D1(zs:List ag):((aw zs).filter (fun z=> !(bt zs).contains z)).length+(bt zs).length=(aw zs).length:=by
 rw[xQ];exact xj _ _
theorem DZ(zs:List ag)(x:Bs):((aw zs).filter (fun z=> !(bt zs).contains z)).contains x=(dN zs).contains x:=by
 rw[xQ,Bool.eq_iff_iff];simp only[cr,List.mem_filter];exact⟨fun h=>h.2,fun h=>⟨(zP zs).1.sub x h,h⟩⟩
theorem G2{zs:List ag}{x:Bs}(h:x∈bt zs):x∈aw zs:=(List.mem_filter.1 h).1
theorem KO{zs:List ag}(hg:dB zs){z:Bs}(hz:z∈aw zs):((z==[46])||(match cF zs z with | none=>false | some p=> !(bt zs).contains p.1&&(cH p.2).any fun h=>lD zs p.2 h ((aw zs).filter (fun z=> !(bt zs).contains z)).contains))= !(bt zs).contains z:=by
 rw[sn hz,aJ,I3 hz,I6];have hf:((aw zs).filter (fun z=> !(bt zs).contains z)).contains=(dN zs).contains:=funext (DZ zs);rw[hf]
 congr 1
 cases hd:cF zs z with
 | none=>rfl
 | some p =>
  have hzv:an z=true:=iV hg ((gI zs z).2 (iy.1 hz));obtain⟨_,_,_,_,x,_,_,hx,_⟩:=wa hg hzv hd;have hp:p.1∈aw zs:=iy.2 (by rw[hx];rfl);dsimp only;rw[sn hp,aJ]
/-! ### Least loops -/
def qz(w:bX)(s:Bs):List Bs×Bool×Int:=if (cO w&&an s)=false then([],false,1)else((A0 w.zones s).1,(A0 w.zones s).2,0)
def fX(w:bX)(a:Bs):Int:=if (cO w&&an a)=false then 1 else if (bU w.zones a).isSome=true then 0 else 4
def tG(w:bX)(a:Bs):List Bs×Int:=if fX w a=0 then(bI w.zones a,0)else([],fX w a)
def tA(w:bX)(a:Bs):List Bs×Bool×Int:=if fX w a=0 then(B6 w.zones a,decide (0<(B6 w.zones a).length),0)else([],false,fX w a)
def pt(w:bX):List Bs×Int:=if cO w=true then(bt w.zones,0)else([],1)
theorem oY{w:bX}{a:Bs}(h:fX w a=0):cO w=true/\an a=true/\(bU w.zones a).isSome=true:=by
 unfold fX at h;split at h
 . cases h
 . rename_i h1;split at h
   . rename_i h2;simp only[Bool.not_eq_false,aR]at h1;exact⟨h1.1,h1.2,h2⟩
   . cases h
theorem uB{w:bX}(hF:k7 w)(hv:cO w=true):dB w.zones:=fun p hp=>⟨hF.few p hp,(ug hv p hp).1⟩
def exS(n:Bs)(t:Int)(d:Datum):Signed:=⟨⟨n,t,0,[d]⟩,[]⟩
def tx(b:Bs):Datum:=⟨b,0,0⟩
def GZ(a host:Bs)(l:List Signed):aS:=⟨a,exS a 2 (tx host)::exS a 4 ⟨[],1,0⟩::l⟩
def ON:aS:=GZ [46] [97] [exS [120] 2 (tx [104,46,121]),exS [121] 2 (tx [104,46,120])]
def xL:aS:=GZ [120] [104,46,121] [exS [108,46,120] 3 (tx [109,46,120]),exS [109,46,120] 3 (tx [108,46,120])]
def yL:aS:=GZ [121] [104,46,120] []
def exL:bX:=⟨[⟨[97],1,0⟩],[⟨0,ON⟩,⟨0,xL⟩,⟨0,yL⟩],⟨[46],6,0,[⟨[],1,1⟩]⟩,[1]⟩
def exN:bX:=⟨[],[],⟨[],0,0,[]⟩,[]⟩
theorem oN:k7 exL:=⟨by decide,by decide,by decide,fun p hp=>by
 rcases List.mem_cons.1 hp with rfl | hp
 . kernel_rfl
 . rcases List.mem_cons.1 hp with rfl | hp
   . kernel_rfl
   . rcases List.mem_cons.1 hp with rfl | hp
     . kernel_rfl
     . cases hp⟩
theorem MM:k7 exN:=⟨by decide,by decide,by decide,fun p hp=>by cases hp⟩
theorem H3:qz exL [108,46,120]=([[108,46,120],[109,46,120]],true,0):=by kernel_rfl
theorem Kz:qz exL [120]=([],false,0):=by kernel_rfl
theorem H5:tG exL [120]=([[121]],0):=by kernel_rfl
theorem H6:pt exL=([[120],[121]],0):=by kernel_rfl
theorem H4:tA exL [120]=([[120],[121]],true,0):=by kernel_rfl
theorem N0:tG exL [122]=([],4):=by kernel_rfl
theorem H7:pt exN=([],1):=by kernel_rfl
def rG(l:List Bs)(s:Bs):Int:=if l.contains s=true then(l.idxOf s:Int)else -1
theorem MW{l:List Bs}{s:Bs}{k:Nat}(hno:(l.take k).contains s=false)(hx:l[k]? =some s):rG l s=k:=by
 have hm:s∈l:=ar hx;unfold rG;rw[if_pos (cr.2 hm)];have hlt:=(av.1 hx).1;have e:l.idxOf s=k:=by
  have h1:s ∉ l.take k:=fun e=>by rw[cr.2 e]at hno;cases hno
  rw[<- List.take_append_drop k l,List.idxOf_append,if_neg h1,drop_cons hx,List.length_take];simp;omega
 rw[e]
theorem KV{l:List Bs}{s:Bs}(h:l.contains s=false):rG l s= -1:=by
 unfold rG;rw[if_neg (by rw[h];simp)]
theorem BQ(l:List Bs)(s:Bs):decide (rG l s>=0)=l.contains s:=by
 unfold rG;cases h:l.contains s with
 | true=>rw[if_pos rfl];exact decide_eq_true (az _)
 | false=>rw[if_neg (by simp)];rfl
def xf:Option (Bs×Ans)->Ans×Bs×Bool
 | some p=>(p.2,p.1,true)
 | none=>(lJ,[],false)
def pE(w:bX):Bool:=mS w&&decide ((w.zones.length:Int)<=12)
end NP
namespace Go.Proofs.YtjapjahfllomkaaGreatDoor
open NQ Go NP Go.RowKit
theorem zr(l:List Bs)(s:Bs)(hl:l.length<=100000):NQ.Fn cx 80 [.slice 1 (l.map au), .str s] (.d (.int .i64 (rG l s))) []:=by
 refine aP bf mixed Tryz.func80 (by kernel_rfl) rfl (ai rfl) ?_;conv=>whnf
 refine⟨Nat,fun k=>⟨[(0, .d (.slice 1 (l.map au))),(1, .d (.str s)),(5, .d (.int .i64 k))],[]⟩,fun k=>k<=l.length/\(l.take k).contains s=false,fun k=>l.length-k,
  ⟨0,⟨Nat.zero_le _,rfl⟩,aj.keep ⟨⟨rfl,rfl⟩,⟨rfl,rfl⟩,⟨rfl,rfl⟩,trivial⟩ trivial⟩,fun k ⟨hk,hno⟩=>?_⟩
 dsimp only at hk hno ⊢
 conv=>whnf
 refine ae (fun h1=>?_) (fun h1=>?_) <;> (rw[h1];conv=>whnf)
 . have hlt:k<l.length:=by simpa using h1
   obtain⟨x,hx⟩:∃x,l[k]? =some x:=⟨_,ah hlt⟩
   refine⟨az k,au x,aT hx,?_⟩
   conv=>whnf
   refine ae (fun h2=>?_) (fun h2=>?_) <;> (rw[h2];conv=>whnf)
   . have e:x=s:=by simpa using h2
     subst e;refine af rfl ?_;rw[MW hno hx];rfl
   . have hne:(x==s)=false:=h2;refine⟨k+1,⟨hlt,?_⟩,by(show l.length-(k+1)<l.length-k;omega),aj.keep ⟨⟨rfl,rfl⟩,⟨rfl,rfl⟩,⟨aq (by omega),rfl⟩,trivial⟩ trivial⟩;rw[bn hx];have hne' :(s==x)=false:=by rw[beq_eq_false_iff_ne]at hne ⊢;exact Ne.symm hne
     rw[Bool.eq_false_iff]at hno ⊢;intro e;rw[cr,List.mem_append,List.mem_singleton]at e;rcases e with e | e
     . exact hno (cr.2 e)
     . rw[e]at hne';simp at hne'
 . obtain rfl:k=l.length:=by simp at h1;omega
   rw[List.take_length]at hno;refine af rfl ?_;rw[KV hno];rfl
theorem HO(w:bX)(a:Bs)(hg:dB w.zones)(ha:an a=true)(hl:w.zones.length<=100000) :
 NQ.Fn cx 30 [.agg (bY w), .str a] (.tuple [.agg ((dq (xf (cF w.zones a)).1).map .d), .d (.str (xf (cF w.zones a)).2.1), .d (.bool (xf (cF w.zones a)).2.2)]) []:=by
 have hz:∀p∈w.zones,bE p.zone=true:=fun p hp=>(hg p hp).2
 refine df (fun | 8=>[66666] | _=>[]) bf mixed Tryz.func30 (by kernel_rfl) rfl (ai rfl) ?_
 conv=>whnf
 (refine⟨_,_,vW w.zones [46] hz hl,?_⟩;conv=>whnf)
 refine⟨Nat×Bs,fun x=>⟨[(1, .d (.str a)),(2, .ptr 2 0),(4, .ptr 4 0),(7, .d (.int .i64 (Cq (bU w.zones x.2))))],[(2, .box ((bY w).map .d)),(4, .box [.d (.int .i64 0), .nil 5, .d (.str [])])]⟩,
  fun x=>aM a x.2=true/\(back a).length+1<=x.1+(back x.2).length/\(a ≠ [46]->(ju w.zones ⟨a,2⟩ (x.1+1) x.2).find? (fY a)=cF w.zones a),fun x=>x.1,
  ⟨((back a).length+1,[46]),⟨iW a,by dsimp only;omega,fun hne=>by unfold cF iI;rw[if_neg hne]⟩,aj.keep ⟨⟨rfl,rfl⟩,⟨rfl,rfl⟩,⟨rfl,rfl⟩,⟨rfl,rfl⟩,trivial⟩ ⟨⟨rfl,rfl⟩,⟨rfl,rfl⟩,trivial⟩⟩,fun⟨f,b⟩ ⟨hu,hf,hinv⟩=>?_⟩
 dsimp only at hu hf hinv ⊢;rw[FI]at hinv;by_cases h46:a=[46]
 . have e:cF w.zones a=none:=by unfold cF;rw[if_pos h46]
   rw[e];cases hc:bU w.zones b with
   | none =>
    conv=>whnf
    exact af rfl rfl
   | some x =>
    subst h46
    conv=>whnf
    exact af rfl rfl
 have hinv:=hinv h46;cases hc:bU w.zones b with
 | none =>
  rw[hc]at hinv;rw[<- hinv]
  conv=>whnf
  exact af rfl rfl
 | some x =>
  rw[hc]at hinv;dsimp only at hinv;have hx:=rr _ b x hc;have u:=qZ (q:=⟨a,2⟩) hg (xO ha) hu hc
  conv=>whnf
  refine ae (fun h1=>?_) (fun h1=>?_) <;> (rw[h1];conv=>whnf)
  case refine_2=>exact absurd (by simpa using h1) h46
  refine⟨az x.1,cm x.2,aT hx,?_⟩
  conv=>whnf
  (refine⟨_,_,E0 x.2.zone ⟨a,2⟩ u.few,?_⟩;conv=>whnf)
  refine ae (fun h2=>?_) (fun h2=>?_) <;> (rw[h2];conv=>whnf)
  . have h2' :((bH x.2.zone ⟨a,2⟩).1.kind != 4)=true:=h2;rw[if_pos h2']at hinv;rw[<- hinv];exact af rfl rfl
  . have h2' :((bH x.2.zone ⟨a,2⟩).1.kind != 4)=false:=h2;rw[if_neg (by rw[h2'];simp)]at hinv;refine ae (fun h3=>?_) (fun h3=>?_) <;> (rw[h3];conv=>whnf)
    . have h3' :((bH x.2.zone ⟨a,2⟩).1.cut==a)=true:=h3;rw[if_pos h3']at hinv;rw[<- hinv];have ea:=(kG hc).2
      (refine⟨(by kernel_rfl:ie _=true),?_⟩;conv=>whnf)
      repeat' (first
       | (exact af rfl (by rw[<- ea];rfl))
       | (refine⟨by kernel_rfl,?_⟩;conv=>whnf)
       | (refine⟨?_,?_⟩ <;> (conv=>whnf))
       | fail)
    . have h3' :((bH x.2.zone ⟨a,2⟩).1.cut==a)=false:=h3;rw[if_neg (by rw[h3'];simp)]at hinv;obtain⟨d1,d2,_⟩:=gQ u h2';rw[(kG hc).2]at d2;have hbl:(back (bH x.2.zone ⟨a,2⟩).1.cut).length<=(back a).length:=((dM _ _).1 d1).length_le;have hf' :(back a).length+1<=f+(back b).length:=hf;obtain⟨f,rfl⟩:∃g,f=g+1:=⟨f-1,by omega⟩
      (refine⟨_,_,vW w.zones (bH x.2.zone ⟨a,2⟩).1.cut hz hl,?_⟩;conv=>whnf)
      exact⟨(f,(bH x.2.zone ⟨a,2⟩).1.cut),⟨d1,by dsimp only;omega,fun _=>hinv⟩,by(show f<f+1;omega),aj.keep ⟨⟨rfl,rfl⟩,⟨rfl,rfl⟩,⟨rfl,rfl⟩,⟨rfl,rfl⟩,trivial⟩ ⟨⟨rfl,rfl⟩,⟨rfl,rfl⟩,trivial⟩⟩
theorem BN(a:Ans)(n:Bs)(hl:a.sets.length<=100000):NQ.Fn cx 40 [.agg (dq a), .str n] (.d (.bool (dQ a n))) []:=by
 refine aP bf mixed Tryz.func40 (by kernel_rfl) rfl (ai rfl) ?_;conv=>whnf
 refine⟨Nat,fun k=>⟨[(1, .d (.str n)),(2, .ptr 2 0),(5, .d (.int .i64 k))],[(2, .box ((dq a).map .d))]⟩,fun k=>k<=a.sets.length/\((a.sets.take k).any fun s=>(s.set.type==1)&&(s.set.name==n))=false,fun k=>a.sets.length-k,
  ⟨0,⟨Nat.zero_le _,rfl⟩,aj.keep ⟨⟨rfl,rfl⟩,⟨rfl,rfl⟩,⟨rfl,rfl⟩,trivial⟩ ⟨⟨rfl,rfl⟩,trivial⟩⟩,fun k ⟨hk,hno⟩=>?_⟩
 dsimp only at hk hno ⊢
 conv=>whnf
 refine ae (fun h1=>?_) (fun h1=>?_) <;> (rw[h1];conv=>whnf)
 . have hlt:k<a.sets.length:=by simpa using h1
   obtain⟨s,hs⟩:∃s,a.sets[k]? =some s:=⟨_,ah hlt⟩
   have next:((s.set.type==1)&&(s.set.name==n))=false->((a.sets.take (k+1)).any fun s=>(s.set.type==1)&&(s.set.name==n))=false:=fun h=>by
    rw[bn hs,List.any_append,hno];simp only[List.any_cons,List.any_nil,h];rfl
   refine⟨az k,ay s,aT hs,?_⟩
   conv=>whnf
   refine ae (fun h2=>?_) (fun h2=>?_) <;> (rw[h2];conv=>whnf)
   case refine_2 =>
    have h2' :(s.set.name==n)=false:=h2;exact⟨k+1,⟨hlt,next (by rw[h2',aD])⟩,by(show a.sets.length-(k+1)<a.sets.length-k;omega),aj.keep ⟨⟨rfl,rfl⟩,⟨rfl,rfl⟩,⟨aq (by omega),rfl⟩,trivial⟩ ⟨⟨rfl,rfl⟩,trivial⟩⟩
   refine⟨az k,ay s,aT hs,?_⟩
   conv=>whnf
   refine ae (fun h3=>?_) (fun h3=>?_) <;> (rw[h3];conv=>whnf)
   . have e:dQ a n=true:=List.any_eq_true.2 ⟨s,ar hs,by rw[show(s.set.type==1)=true from h3,show(s.set.name==n)=true from h2];rfl⟩;rw[e];exact af rfl rfl
   . have h3' :(s.set.type==1)=false:=h3;exact⟨k+1,⟨hlt,next (by rw[h3',aG])⟩,by(show a.sets.length-(k+1)<a.sets.length-k;omega),aj.keep ⟨⟨rfl,rfl⟩,⟨rfl,rfl⟩,⟨aq (by omega),rfl⟩,trivial⟩ ⟨⟨rfl,rfl⟩,trivial⟩⟩
 . obtain rfl:k=a.sets.length:=by simp at h1;omega
   rw[List.take_length]at hno;have e:dQ a n=false:=hno;rw[e];exact af rfl rfl
theorem D3(a:Ans)(s0:Signed)(R:List Signed)(hs:a.sets=s0::R)(hl:s0.set.data.length<=100000):NQ.Fn cx 31 [.agg (dq a)] (.d (.slice 1 ((s0.set.data.map (·.text)).map au))) []:=by
 obtain⟨ak,sets,ac⟩:=a;dsimp only at hs;subst hs;refine aP bf mixed Tryz.func31 (by kernel_rfl) rfl (ai rfl) ?_;conv=>whnf
 refine⟨Nat,fun k=>⟨[(1, .ptr 1 0),(3, .own 3),(4, .d (.int .i64 k))],[(1, .box ((dq ⟨ak,s0::R,ac⟩).map .d)),(3, .row 9 1 (((s0.set.data.take k).map (·.text)).map au))]⟩,fun k=>k<=s0.set.data.length,fun k=>s0.set.data.length-k,
  ⟨0,Nat.zero_le _,(aj.jR 3 3 1 9 1 rfl rfl (by decide)).trans (aj.keep ⟨⟨rfl,rfl⟩,⟨rfl,rfl⟩,⟨rfl,rfl⟩,trivial⟩ ⟨⟨rfl,rfl⟩,⟨rfl,rfl⟩,trivial⟩)⟩,fun k hk=>?_⟩
 dsimp only at hk ⊢
 conv=>whnf
 refine⟨by decide,ay s0,rfl,?_⟩
 conv=>whnf
 refine ae (fun h1=>?_) (fun h1=>?_) <;> (rw[h1];conv=>whnf)
 . have hlt:k<s0.set.data.length:=by simpa using h1
   obtain⟨d,hd⟩:∃d,s0.set.data[k]? =some d:=⟨_,ah hlt⟩
   refine⟨by decide,ay s0,rfl,?_⟩
   conv=>whnf
   refine⟨az k,cB d,aT hd,?_⟩
   conv=>whnf
   refine⟨by(show(((s0.set.data.take k).map (·.text)).map au).length+1<=_);simp;omega,by(show((((s0.set.data.take k).map (·.text)).map au).length+1)*16<=_);simp;omega,?_⟩
   conv=>whnf
   refine⟨k+1,hlt,by(show s0.set.data.length-(k+1)<s0.set.data.length-k;omega),aj.keep ⟨⟨rfl,rfl⟩,⟨rfl,rfl⟩,⟨aq (by omega),rfl⟩,trivial⟩ ⟨⟨rfl,rfl⟩,⟨?_,rfl⟩,trivial⟩⟩;rw[bn hd,List.map_append,List.map_append];rfl
 . obtain rfl:k=s0.set.data.length:=by simp at h1;omega
   rw[List.take_length];exact af rfl rfl
theorem KS(w:bX)(s:Bs)(hg:dB w.zones)(hs:an s=true)(hl:w.zones.length<=100000):NQ.Fn cx 79 [.agg (bY w), .str s] (.d (.str ((eE w.zones s).getD []))) []:=by
 have hz:∀p∈w.zones,an p.zone.apex=true:=fun p hp=>(bu (hg p hp).2).apex
 have fD:=Dq w.zones (-1) s [] (bD hs) hz hl;have hh:=HH hs hz;refine aP bf mixed Tryz.func79 (by kernel_rfl) rfl (ai rfl) ?_;conv=>whnf
 (refine⟨_,_,fD,?_⟩;conv=>whnf)
 cases hd:ov w.zones (-1) s []with
 | none =>
  rw[hd]at hh;rw[<- hh]
  conv=>whnf
  exact af rfl rfl
 | some x =>
  rw[hd]at hh;rw[<- hh];have hx:w.zones[x.1]? =some x.2:=ym (ok:=iu (-1) s []) (better:=qD) w.zones 0 none (fun j=>by rw[Nat.zero_add]) (fun x hx=>by cases hx) x hd
  conv=>whnf
  refine⟨az x.1,cm x.2,aT hx,?_⟩
  conv=>whnf
  exact af rfl rfl
end Go.Proofs.YtjapjahfllomkaaGreatDoor
namespace NP
open NQ Go
def kP(s:Bs)(put:Bool)(l:List Bs):List Bs:=if put=true then l else qh s l
theorem K6(s:Bs)(put:Bool):kP s put []=if put=true then[]else[s]:=rfl
theorem K7(s x:Bs)(t:List Bs):kP s true (x::t)=x::kP s true t:=rfl
theorem IG{s x:Bs}{t:List Bs}(h:aL s x<=0):kP s false (x::t)=s::x::kP s true t:=by
 unfold kP;rw[if_neg (by simp),if_pos rfl];unfold qh;rw[if_pos h]
theorem Nb{s x:Bs}{t:List Bs}(h:¬aL s x<=0):kP s false (x::t)=x::kP s false t:=by
 unfold kP;rw[if_neg (by simp),if_neg (by simp)];rw[qh,if_neg h]
end NP
namespace Go.Proofs.YtjapjahfllomkaaGreatDoor
open NQ Go NP Go.RowKit
theorem Ma(l:List Bs)(s:Bs)(hs:s.length<=60)(hv:∀x∈l,x.length<=60)(hl:l.length<=10000):NQ.Fn cx 77 [.slice 1 (l.map au), .str s] (.d (.slice 1 ((la l s).map au))) []:=by
 refine aP bf mixed Tryz.func77 (by kernel_rfl) rfl (ai rfl) ?_;conv=>whnf
 (refine⟨_,_,zr l s (by omega),?_⟩;conv=>whnf)
 rw[BQ];cases hc:l.contains s with
 | true =>
  have e:la l s=l:=by unfold la;rw[if_pos hc]
  rw[e]
  conv=>whnf
  exact af rfl rfl
 | false =>
  have e:la l s=kP s false l:=by unfold la kP;rw[if_neg (by rw[hc];simp),if_neg (by simp)]
  have hns:s ∉ l:=fun e=>by rw[cr.2 e]at hc;cases hc
  rw[e]
  conv=>whnf
  refine⟨Nat×Bool×List Bs,fun x=>⟨[(0, .d (.slice 1 (l.map au))),(1, .d (.str s)),(5, .own 5),(6, .d (.bool x.2.1)),(7, .d (.int .i64 x.1))],[(5, .row 9 1 (x.2.2.map au))]⟩,
   fun x=>x.1<=l.length/\(x.2.2.length<=x.1+1/\(x.2.1=false->x.2.2.length<=x.1))/\x.2.2++kP s x.2.1 (l.drop x.1)=kP s false l,fun x=>l.length-x.1,
   ⟨(0,false,[]),⟨Nat.zero_le _,⟨Nat.zero_le _,fun _=>Nat.zero_le _⟩,rfl⟩,(aj.jR 5 5 1 9 1 rfl rfl (by decide)).trans (aj.keep ⟨⟨rfl,rfl⟩,⟨rfl,rfl⟩,⟨rfl,rfl⟩,⟨rfl,rfl⟩,⟨rfl,rfl⟩,trivial⟩ ⟨⟨rfl,rfl⟩,trivial⟩)⟩,fun⟨k,put,out⟩ ⟨hk,⟨ho,ho2⟩,hinv⟩=>?_⟩
  dsimp only at hk ho ho2 hinv ⊢
  conv=>whnf
  refine ae (fun h1=>?_) (fun h1=>?_) <;> (rw[h1];conv=>whnf)
  . have hlt:k<l.length:=by simpa using h1
    obtain⟨x,hx⟩:∃x,l[k]? =some x:=⟨_,ah hlt⟩
    have hxm:=ar hx;rw[drop_cons hx]at hinv;have hne:x ≠ s:=fun e=>hns (e ▸ hxm)
    cases put with
    | true =>
     rw[K7]at hinv
     conv=>whnf
     refine⟨az k,au x,aT hx,?_⟩
     conv=>whnf
     refine⟨by(show(out.map au).length+1<=_);simp;omega,by(show((out.map au).length+1)*16<=_);simp;omega,?_⟩
     conv=>whnf
     refine⟨(k+1,true,out++[x]),⟨hlt,⟨by simp;omega,fun h=>by cases h⟩,by rw[<- hinv];simp⟩,by(show l.length-(k+1)<l.length-k;omega),aj.keep ⟨⟨rfl,rfl⟩,⟨rfl,rfl⟩,⟨rfl,rfl⟩,⟨rfl,rfl⟩,⟨aq (by omega),rfl⟩,trivial⟩ ⟨⟨?_,rfl⟩,trivial⟩⟩;rw[List.map_append];rfl
    | false =>
     conv=>whnf
     refine⟨az k,au x,aT hx,?_⟩
     conv=>whnf
     (refine⟨_,_,px x s (hv x hxm) hs,?_⟩;conv=>whnf)
     have hcmp:=NX hne;refine ae (fun h2=>?_) (fun h2=>?_) <;> (rw[h2];conv=>whnf)
     . have h2' :aL s x<=0:=of_decide_eq_true (hcmp.symm.trans h2);rw[IG h2']at hinv;refine⟨by(show(out.map au).length+1<=_);simp;omega,by(show((out.map au).length+1)*16<=_);simp;omega,?_⟩
       conv=>whnf
       refine⟨az k,au x,aT hx,?_⟩
       conv=>whnf
       refine⟨by(show(out.map au++[au s]).length+1<=_);simp;omega,by(show((out.map au++[au s]).length+1)*16<=_);simp;omega,?_⟩
       conv=>whnf
       refine⟨(k+1,true,out++[s,x]),⟨hlt,⟨by have:=ho2 rfl;simp;omega,fun h=>by cases h⟩,by rw[<- hinv];simp⟩,by(show l.length-(k+1)<l.length-k;omega),aj.keep ⟨⟨rfl,rfl⟩,⟨rfl,rfl⟩,⟨rfl,rfl⟩,⟨rfl,rfl⟩,⟨aq (by omega),rfl⟩,trivial⟩ ⟨⟨?_,rfl⟩,trivial⟩⟩;rw[List.map_append];show some (Blk.row _ _ ((out.map au++[au s])++[au x]) _)=_
       rw[List.append_assoc];rfl
     . have h2' :¬aL s x<=0:=of_decide_eq_false (hcmp.symm.trans h2);rw[Nb h2']at hinv;refine⟨az k,au x,aT hx,?_⟩
       conv=>whnf
       refine⟨by(show(out.map au).length+1<=_);simp;omega,by(show((out.map au).length+1)*16<=_);simp;omega,?_⟩
       conv=>whnf
       refine⟨(k+1,false,out++[x]),⟨hlt,⟨by simp;omega,fun _=>by have:=ho2 rfl;simp;omega⟩,by rw[<- hinv];simp⟩,by(show l.length-(k+1)<l.length-k;omega),aj.keep ⟨⟨rfl,rfl⟩,⟨rfl,rfl⟩,⟨rfl,rfl⟩,⟨rfl,rfl⟩,⟨aq (by omega),rfl⟩,trivial⟩ ⟨⟨?_,rfl⟩,trivial⟩⟩;rw[List.map_append];rfl
  . obtain rfl:k=l.length:=by simp at h1;omega
    rw[List.drop_length,K6]at hinv;cases put with
    | true =>
     rw[if_pos rfl,List.append_nil]at hinv
     conv=>whnf
     refine af rfl ?_;rw[<- hinv];rfl
    | false =>
     rw[if_neg (by simp)]at hinv
     conv=>whnf
     refine⟨by(show(out.map au).length+1<=_);simp;omega,by(show((out.map au).length+1)*16<=_);simp;omega,?_⟩
     conv=>whnf
     refine af rfl ?_;rw[<- hinv,List.map_append];rfl
theorem DE(w:bX)(hg:dB w.zones)(hl:w.zones.length<=1000):NQ.Fn cx 29 [.agg (bY w)] (.d (.slice 1 ((aw w.zones).map au))) []:=by
 rw[<- JV];have hv:∀k,∀x∈iZ (w.zones.take k) [],x.length<=60:=fun k x hx=>by
  obtain⟨_,_,r⟩:=vQ (w.zones.take k) [] List.Pairwise.nil List.nodup_nil;rcases (r x).1 hx with h | ⟨p,hp,rfl⟩
  . cases h
  . exact bD (bu (hg p (List.mem_of_mem_take hp)).2).apex
 refine aP bf mixed Tryz.func29 (by kernel_rfl) rfl (ai rfl) ?_;conv=>whnf
 refine⟨Nat,fun k=>⟨[(1, .ptr 1 0),(3, .d (.slice 1 ((iZ (w.zones.take k) []).map au))),(4, .d (.int .i64 k))],[(1, .box ((bY w).map .d))]⟩,fun k=>k<=w.zones.length,fun k=>w.zones.length-k,
  ⟨0,Nat.zero_le _,(aj.OX 3 1 (by kernel_rfl)).trans (aj.keep ⟨⟨rfl,rfl⟩,⟨rfl,rfl⟩,⟨rfl,rfl⟩,trivial⟩ ⟨⟨rfl,rfl⟩,trivial⟩)⟩,fun k hk=>?_⟩
 dsimp only at hk ⊢
 conv=>whnf
 refine ae (fun h1=>?_) (fun h1=>?_) <;> (rw[h1];conv=>whnf)
 . have hlt:k<w.zones.length:=by simpa using h1
   obtain⟨p,hp⟩:∃p,w.zones[k]? =some p:=⟨_,ah hlt⟩
   have hlen:(iZ (w.zones.take k) []).length<=10000:=by
    have:=za (w.zones.take k) [];have:=List.length_take_le' k w.zones;simp at *; omega
   refine⟨az k,cm p,aT hp,?_⟩
   conv=>whnf
   (refine⟨_,_,Ma (iZ (w.zones.take k) []) p.zone.apex (bD (bu (hg p (ar hp)).2).apex) (hv k) hlen,?_⟩;conv=>whnf)
   refine⟨k+1,hlt,by(show w.zones.length-(k+1)<w.zones.length-k;omega),aj.keep ⟨⟨rfl,rfl⟩,⟨?_,rfl⟩,⟨aq (by omega),rfl⟩,trivial⟩ ⟨⟨rfl,rfl⟩,trivial⟩⟩;rw[bn hp,Fq];rfl
 . obtain rfl:k=w.zones.length:=by simp at h1;omega
   rw[List.take_length];exact af rfl rfl
theorem Iy(w:bX)(a n:Bs)(hg:dB w.zones)(hl:w.zones.length<=100000):NQ.Fn cx 81 [.agg (bY w), .str a, .str n] (.d (.bool (lr w.zones a n))) []:=by
 have hz:∀p∈w.zones,bE p.zone=true:=fun p hp=>(hg p hp).2
 refine aP bf mixed Tryz.func81 (by kernel_rfl) rfl (ai rfl) ?_;conv=>whnf
 (refine⟨_,_,vW w.zones a hz hl,?_⟩;conv=>whnf)
 unfold lr;cases hc:bU w.zones a with
 | none =>
  conv=>whnf
  exact af rfl rfl
 | some x =>
  have hx:=rr _ a x hc
  conv=>whnf
  refine⟨az x.1,cm x.2,aT hx,?_⟩
  conv=>whnf
  (refine⟨_,_,E0 x.2.zone ⟨n,1⟩ (hg _ (ar hx)).1,?_⟩;conv=>whnf)
  exact af rfl rfl
theorem KP(w:bX)(a:Ans)(n:Bs)(r:List Bs)(hg:dB w.zones)(hn:an n=true)(hl:w.zones.length<=100000)(ha:a.sets.length<=100000)(hr:r.length<=100000) :
 NQ.Fn cx 32 [.agg (bY w), .agg (dq a), .str n, .slice 1 (r.map au)] (.d (.bool (lD w.zones a n r.contains))) []:=by
 refine aP bf mixed Tryz.func32 (by kernel_rfl) rfl (ai rfl) ?_;conv=>whnf
 (refine⟨_,_,KS w n hg hn hl,?_⟩;conv=>whnf)
 unfold lD;have fI:=zr r ((eE w.zones n).getD []) hr;have fK:=Iy w ((eE w.zones n).getD []) n hg hl;cases hgl:dQ a n with
 | true =>
  have fG:=BN a n ha;rw[hgl]at fG
  (refine⟨_,_,fG,?_⟩;conv=>whnf)
  exact af rfl rfl
 | false =>
  have fG:=BN a n ha;rw[hgl]at fG
  (refine⟨_,_,fG,?_⟩;conv=>whnf)
  cases hh:eE w.zones n with
  | none =>
   conv=>whnf
   exact af rfl rfl
  | some b =>
   rw[hh]at fI fK;have hbv:an b=true:=iV hg (wk hn hh);have hne:(b != [])=true:=by have:=CP hbv;simpa using this
   have hne' :(b==[])=false:=by simpa [bne] using hne
   conv=>whnf
   refine ae (fun h1=>?_) (fun h1=>?_) <;> (rw[h1];conv=>whnf)
   case refine_2=>exact absurd (h1.symm.trans hne) (by simp)
   (refine⟨_,_,fI,?_⟩;conv=>whnf)
   have e:decide (rG r b>=0)=r.contains b:=BQ r b;rw[show decide (rG r ((some b).getD [])>=0)=r.contains b from e];cases hrb:r.contains b with
   | false =>
    conv=>whnf
    refine af rfl ?_;dsimp only;rw[hrb];rfl
   | true =>
    conv=>whnf
    (refine⟨_,_,fK,?_⟩;conv=>whnf)
    refine af rfl ?_;dsimp only;rw[hrb];rfl
theorem H8(w:bX):NQ.Fn cx 71 [.agg (bY w)] (.d (.bool (pE w))) []:=by
 refine aP bf mixed Tryz.func71 (by kernel_rfl) rfl (ai rfl) ?_;conv=>whnf
 (refine⟨_,_,MO w,?_⟩;conv=>whnf)
 unfold pE;cases hf:mS w with
 | false =>
  conv=>whnf
  exact af rfl rfl
 | true =>
  conv=>whnf
  rw[ao];exact af rfl rfl
end Go.Proofs.YtjapjahfllomkaaGreatDoor
