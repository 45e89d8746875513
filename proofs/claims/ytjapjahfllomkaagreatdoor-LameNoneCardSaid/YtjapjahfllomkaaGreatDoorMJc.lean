/-
  Merged texts.
-/
import Derived.Test.YtjapjahfllomkaaGreatDoorMGja
import Derived.Shelf.SlIter.Collect
set_option linter.all false
set_option maxRecDepth 100000
namespace NP
open NQ Go
open Go.Proofs.YtjapjahfllomkaaGreatDoor (bd)
def kS(l:List (Bs×Int)):List (List D×D):=l.map λp=>([.str p.1,.int .i64 p.2],.bool true)
theorem Aq(a:Bs)(n:Int):∀l:List (Bs×Int),kG [.str,.int .i64] [.str a,.int .i64 n] (kS l)=some (if l.contains (a,n)=true then some (.bool true)else none)
 |[]=>rfl
 |x::l=>by
  show(match cq [.str,.int .i64] [.d (.str a),.d (.int .i64 n)] [.d (.str x.1),.d (.int .i64 x.2)]with|some true=>_|some false=>kG _ _ (kS l)|none=>none)=_
  have:cq [.str,.int .i64] [.d (.str a),.d (.int .i64 n)] [.d (.str x.1),.d (.int .i64 x.2)]=some ((a,n)==x):=by
   show some ((a==x.1)&&((n==x.2)&&true))=_
   rw[gj];rfl
  rw[this,List.contains_cons];cases h:((a,n)==x)with
  |true=>simp
  |false=>simp only[dK];exact Aq a n l
theorem Cy{a:Bs}{n:Int}:∀{l:List (Bs×Int)},mO [.str,.int .i64] [.str a,.int .i64 n] (.bool true) (kS l)=some (kS (if l.contains (a,n)=true then l else l++[(a,n)]))
 |[]=>rfl
 |x::l=>by
  show(match cq [.str,.int .i64] [.d (.str a),.d (.int .i64 n)] [.d (.str x.1),.d (.int .i64 x.2)]with|some true=>_|some false=>(mO _ _ _ (kS l)).map _|none=>none)=_
  have:cq [.str,.int .i64] [.d (.str a),.d (.int .i64 n)] [.d (.str x.1),.d (.int .i64 x.2)]=some ((a,n)==x):=by
   show some ((a==x.1)&&((n==x.2)&&true))=_
   rw[gj];rfl
  rw[this,List.contains_cons];cases h:((a,n)==x)with
  |true =>
   have hx:x=(a,n):=(eq_of_beq h).symm;subst hx;simp[kS]
  |false =>
   simp only[dK];rw[Cy (l:=l)];split <;> rfl
def px(l:List (Bs×Int))(p:Bs×Int):List (Bs×Int):=if l.contains p=true then l else l++[p]
def lM(w:ay)(l:List ai):List (Bs×Int):=l.foldl (λout p=>px out (mZ w p)) []
theorem Hk(w:ay)(l:List ai)(p:ai):lM w (l++[p])=px (lM w l) (mZ w p):=by unfold lM;rw[List.foldl_append];rfl
theorem GS{l:List (Bs×Int)}{p x:Bs×Int}:x∈px l p ↔ x∈l\/x=p:=by
 unfold px;split
 . rename_i h;exact⟨.inl,λhx=>hx.elim id λe=>e ▸ df.1 h⟩
 . simp
theorem Ci(w:ay):∀(l:List ai) (out:List (Bs×Int)) (x:Bs×Int),x∈l.foldl (λout p=>px out (mZ w p)) out ↔ x∈out\/ ∃p∈l,mZ w p=x
 |[],out,x=>by simp
 |p::t,out,x=>by
  show x∈t.foldl _ (px out (mZ w p)) ↔ _
  rw[Ci w t,GS];constructor
  . rintro((h|h)|⟨q,hq,e⟩)
    . exact .inl h
    . exact .inr ⟨p,List.mem_cons_self .., h.symm⟩
    . exact .inr ⟨q,aM _ hq,e⟩
  . rintro(h|⟨q,hq,e⟩)
    . exact .inl (.inl h)
    . rcases List.mem_cons.1 hq with rfl|hq
      . exact .inl (.inr e.symm)
      . exact .inr ⟨q,hq,e⟩
def vU(w:ay):List (Bs×Int):=lM w (dm ic w.zones)
theorem FF(w:ay)(a:Bs)(n:Int):(vU w).contains (a,n)=bc w a n:=by
 rw[Bool.eq_iff_iff,df];unfold vU lM bc;rw[Ci,List.any_eq_true];have hperm:=gP (pB w.zones);constructor
 . rintro(h|⟨p,hp,e⟩)
   . cases h
   . refine⟨p,hperm.mem_iff.1 hp,?_⟩;unfold mZ at e;simp only[Prod.mk.injEq]at e;simp[e.1,e.2]
 . rintro⟨p,hp,h⟩;simp only[aB,beq_iff_eq]at h;refine .inr ⟨p,hperm.mem_iff.2 hp,?_⟩;unfold mZ;rw[h.1,h.2]
def bV(l:List ai):List (Bs×D):=l.map λp=>(p.zone.apex,.agg (aW p.zone))
theorem ku(a:Bs):∀l:List ai,cJ a (bV l)=(l.find? λp=>p.zone.apex==a).map λp=>D.agg (aW p.zone)
 |[]=>rfl
 |p::t=>by
  show(if a=p.zone.apex then _ else cJ a (bV t))=_
  by_cases h:a=p.zone.apex
  . rw[if_pos h,List.find?_cons_of_pos (by simp[h])];rfl
  . rw[if_neg h,ku a t,List.find?_cons_of_neg (by simpa using λe=>h e.symm)]
theorem xe{p:ai}:∀{l:List ai},rO l p.zone.apex=false->dG p.zone.apex (.agg (aW p.zone)) (bV l)=bV (l++[p])
 |[],_=>rfl
 |x::t,h=>by
  unfold rO at h;rw[List.any_cons,Bool.or_eq_false_iff]at h;have hne:¬p.zone.apex=x.zone.apex:=λe=>by rw[e]at h;simp at h
  show(if p.zone.apex=x.zone.apex then _ else _::dG _ _ (bV t))=_
  rw[if_neg hne,xe h.2];rfl
theorem xZ{w:ay}(h:aK w=true)(a:Bs):(fb w.zones).find? (λp=>p.zone.apex==a)=(aR w.zones a).map (·.2):=by
 have C:=ji h;cases hf:(fb w.zones).find? (λp=>p.zone.apex==a)with
 |none =>
  have hc:=C.copy a;cases hx:aR (fb w.zones) a with
  |none=>rw[hx]at hc;exact hc
  |some x =>
   obtain⟨h1,h2,_⟩:=cF hx;have:=List.find?_eq_none.1 hf x.2 h1;simp[h2]at this
 |some p =>
  have hp:=List.mem_of_find?_eq_some hf;have ha:p.zone.apex=a:=by simpa using List.find?_some hf
  have:=(C.mem p).1 hp;rw[ha]at this;exact this.symm
theorem pO(a:Bs)(l:List ai):eS (.str a) ((bV l).map cK)=some (cJ a (bV l)):=by
 have:∀m:List (Bs×D),eS (.str a) (m.map cK)=some (cJ a m):=λm=>by
  induction m with
  |nil=>rfl
  |cons p t ih =>
   obtain⟨b,v⟩:=p;show(match eK (.str a) [.tuple [.str b]]with|some true=>_|some false=>eS (.str a) (t.map cK)|none=>none)=(some (if a=b then some v else cJ a t))
   have:eK (.str a) [.tuple [.str b]]=some (a==b):=rfl;rw[this];by_cases h:a=b
   . subst h;simp
   . have:(a==b)=false:=by simp[h]
     rw[this,if_neg h];exact ih
 exact this _
def cG(l:List (Bs×List Int)):List (Bs×D):=l.map λp=>(p.1,.slice 1 (p.2.map bd))
def kY(w:ay)(l:List (Bs×List Int)):Prop:= ∀p∈l,p.2=cT w p.1
def iW(l:List (Bs×List Int))(s:Bs):Option (List Int):=(l.find? λp=>p.1==s).map (·.2)
theorem rD(s:Bs):∀l:List (Bs×List Int),cJ s (cG l)=(iW l s).map λx=>D.slice 1 (x.map bd)
 |[]=>rfl
 |p::t=>by
  show(if s=p.1 then _ else cJ s (cG t))=_
  unfold iW;by_cases h:s=p.1
  . rw[if_pos h,List.find?_cons_of_pos (by simp[h])];rfl
  . rw[if_neg h,rD s t,List.find?_cons_of_neg (by simpa using λe=>h e.symm)];rfl
theorem zo{s:Bs}{x:List Int}:∀{l:List (Bs×List Int)},iW l s=none->dG s (.slice 1 (x.map bd)) (cG l)=cG (l++[(s,x)])
 |[],_=>rfl
 |p::t,h=>by
  unfold iW at h;have hne:¬s=p.1:=λe=>by rw[List.find?_cons_of_pos (by simp[e])]at h;cases h
  rw[List.find?_cons_of_neg (by simpa using λe=>hne e.symm)]at h;show(if s=p.1 then _ else _::dG _ _ (cG t))=_
  rw[if_neg hne,zo h];rfl
theorem BP{w:ay}{l:List (Bs×List Int)}(h:kY w l){s:Bs}{x:List Int}(hf:iW l s=some x):x=cT w s:=by
 unfold iW at hf;cases hp:l.find? (λp=>p.1==s)with
 |none=>rw[hp]at hf;cases hf
 |some p =>
  rw[hp]at hf;cases hf;have:=h p (List.mem_of_find?_eq_some hp);show p.2=cT w s
  rw[this,show p.1=s by simpa using List.find?_some hp]
def kq(w:ay)(l:List (Bs×List Int))(s:Bs):List (Bs×List Int):=if (iW l s).isSome=true then l else l++[(s,cT w s)]
theorem uI{w:ay}{l:List (Bs×List Int)}(h:kY w l)(s:Bs):kY w (kq w l s):=by
 unfold kq;split
 . exact h
 . intro p hp;rcases List.mem_append.1 hp with hp|hp
   . exact h p hp
   . rw[List.mem_singleton]at hp;subst hp;rfl
end NP
namespace Go.Proofs.YtjapjahfllomkaaGreatDoor
open NQ Go NP Go.RowKit
theorem zX(z:aF)(hz:z.sets.length<=100000)(hd:∀s∈z.sets,s.set.type=4-> ∃d,s.set.data[0]? =some d):NQ.Fn cx 105 [.agg (aW z)] (.d (.int .i64 (gy z))) []:=by
 refine aA aO mixed Tryz.func105 (by kernel_rfl) rfl (ah rfl) ?_;conv=>whnf
 refine⟨Nat,λk=>⟨[(1,.ptr 1 0),(6,.d (.slice 5 (z.sets.map az))),(7,.d (.int .i64 ((z.sets.map az).length:Int))),(8,.d (.int .i64 k))],[(1,.box ((aW z).map .d))]⟩,λk=>k<=z.sets.length/\(z.sets.take k).find? (λs=>s.set.type==4)=none,λk=>z.sets.length-k,
  ⟨0,⟨Nat.zero_le _,rfl⟩,aj.keep ⟨ab,ab,ab,ab,trivial⟩ ⟨ab,trivial⟩⟩,λk ⟨hk,hno⟩=>?_⟩
 dsimp only at hk hno ⊢
 conv=>whnf
 refine ae (λh1=>?_) (λh1=>?_) <;> (rw[h1];conv=>whnf)
 . have hlt:k<z.sets.length:=by simpa using h1
   obtain⟨s,hs⟩:∃s,z.sets[k]? =some s:=⟨_,ag hlt⟩
   have hsm:=aq hs;have hsplit:z.sets.find? (λs=>s.set.type==4)=(s::z.sets.drop (k+1)).find? (λs=>s.set.type==4):=by
    conv=>lhs;rw[<- List.take_append_drop k z.sets]
    rw[List.find?_append,hno,Option.none_or,drop_cons hs]
   refine⟨av k,az s,aC hs,?_⟩
   conv=>whnf
   refine ae (λh2=>?_) (λh2=>?_) <;> (rw[h2];conv=>whnf)
   . have ht:s.set.type=4:=by simpa using h2
     obtain⟨d,hdd⟩:=hd s hsm ht;refine⟨by decide,bt d,(by show(s.set.data.map bt)[0]? =_;rw[aQ,hdd];rfl),?_⟩
     conv=>whnf
     refine af rfl ?_;unfold gy;rw[hsplit,List.find?_cons_of_pos (by exact h2)];dsimp only;rw[hdd];rfl
   . have h2' :(s.set.type==4)=false:=h2;refine⟨k+1,⟨hlt,?_⟩,by(show z.sets.length-(k+1)<z.sets.length-k;omega),aj.keep ⟨ab,ab,ab,⟨ao (by omega),rfl⟩,trivial⟩ ⟨ab,trivial⟩⟩;rw[bg hs,List.find?_append,hno,Option.none_or,List.find?_cons_of_neg (by rw[h2'];simp)];rfl
 . obtain rfl:k=z.sets.length:=by simp at h1;omega
   rw[List.take_length]at hno;refine af rfl ?_;unfold gy;rw[hno];rfl
theorem xM{z:aF}(hv:aY z=true):∀s∈z.sets,s.set.type=4-> ∃d,s.set.data[0]? =some d:=λs hs _=>by
 exact qX ((dq.1 hv).ord.set s hs)
theorem RZ(p q:ai)(hp:aY p.zone=true)(hq:aY q.zone=true):NQ.Fn cx 102 [.agg (aN p),.agg (aN q)] (.d (.int .i64 (ic p q))) []:=by
 have few:∀{z:aF},aY z=true->z.sets.length<=100000:=λ{z} h=>by have:=(dq.1 h).ord.few;omega
 refine aA aO mixed Tryz.func102 (by kernel_rfl) rfl (ah rfl) ?_;conv=>whnf
 (refine⟨(by kernel_rfl:bf _ _=true),?_⟩;conv=>whnf)
 (refine⟨_,_,zX q.zone (few hq) (xM hq),?_⟩;conv=>whnf)
 (refine⟨_,_,zX p.zone (few hp) (xM hp),?_⟩;conv=>whnf)
 (refine⟨_,_,ot (gy q.zone) (gy p.zone),?_⟩;conv=>whnf)
 (refine⟨_,_,ot p.host q.host,?_⟩;conv=>whnf)
 (refine⟨_,Kq [cZ (gy q.zone) (gy p.zone),cZ p.host q.host] (by simp),rfl,?_⟩;conv=>whnf)
 exact af rfl rfl
theorem mR(s:gG)(hl:s.data.length<=100000):NQ.Fn cx 55 [.agg (mV s)] (.d (.slice 1 ((s.data.map (·.n)).map bd))) []:=by
 refine aA aO mixed Tryz.func55 (by kernel_rfl) rfl (ah rfl) ?_;conv=>whnf
 refine⟨Nat,λk=>⟨[(3,.own 3),(7,.d (.slice 3 (s.data.map bt))),(8,.d (.int .i64 ((s.data.map bt).length:Int))),(9,.d (.int .i64 k))],[(3,.row 3 1 (((s.data.take k).map (·.n)).map bd))]⟩,λk=>k<=s.data.length,λk=>s.data.length-k,
  ⟨0,Nat.zero_le _,(aj.nF 3 3 1 3 1 rfl rfl (by decide)).trans (aj.keep ⟨ab,ab,ab,ab,trivial⟩ ⟨ab,trivial⟩)⟩,λk hk=>?_⟩
 dsimp only at hk ⊢
 conv=>whnf
 refine ae (λh1=>?_) (λh1=>?_) <;> (rw[h1];conv=>whnf)
 . have hlt:k<s.data.length:=by simpa using h1
   obtain⟨d,hd⟩:∃d,s.data[k]? =some d:=⟨_,ag hlt⟩
   refine⟨av k,bt d,aC hd,?_⟩
   conv=>whnf
   refine⟨by(show(((s.data.take k).map (·.n)).map bd).length+1<=_);simp;omega,by(show((((s.data.take k).map (·.n)).map bd).length+1)*8<=_);simp;omega,?_⟩
   conv=>whnf
   refine⟨k+1,hlt,by(show s.data.length-(k+1)<s.data.length-k;omega),aj.keep ⟨ab,ab,ab,⟨ao (by omega),rfl⟩,trivial⟩ ⟨⟨?_,rfl⟩,trivial⟩⟩;rw[bg hd,List.map_append,List.map_append];rfl
 . obtain rfl:k=s.data.length:=by simp at h1;omega
   rw[List.take_length];exact af rfl rfl
theorem CB{l:List Signed}{a:Bs}{k:Nat}{s:Signed}(h:l[k]? =some s):(((l.take (k+1)).filter λs=>(s.set.name==a)&&(s.set.type==2)).flatMap λs=>s.set.data.map (·.text)) =
 (((l.take k).filter λs=>(s.set.name==a)&&(s.set.type==2)).flatMap λs=>s.set.data.map (·.text))++(if ((s.set.name==a)&&(s.set.type==2))=true then s.set.data.map (·.text)else[]):=by
 rw[bg h,List.filter_append,List.flatMap_append];by_cases hb:((s.set.name==a)&&(s.set.type==2))=true
 . rw[if_pos hb,List.filter_cons_of_pos (by exact hb)];simp
 . rw[if_neg hb,List.filter_cons_of_neg (by exact hb)];simp
theorem oS{z:aF}(a:Bs)(hd:∀s∈z.sets,s.set.data.length<=100):∀k,(((z.sets.take k).filter λs=>(s.set.name==a)&&(s.set.type==2)).flatMap λs=>s.set.data.map (·.text)).length<=100*k
 |0=>by simp
 |k+1=>by
  have ih:=oS a hd k;cases hs:z.sets[k]? with
  |none =>
   have:z.sets.length<=k:=by
    rcases Nat.lt_or_ge k z.sets.length with h|h
    . rw[ag h]at hs;cases hs
    . exact h
   rw[List.take_of_length_le (by omega)];rw[List.take_of_length_le this]at ih;omega
  |some s =>
   rw[CB hs,List.length_append];have:=hd s (aq hs);split
   . rw[ak];omega
   . rw[List.length_nil];omega
set_option maxHeartbeats 1000000 in
theorem oz(z:aF)(a:Bs)(hz:z.sets.length<=1000)(hd:∀s∈z.sets,s.set.data.length<=100):NQ.Fn cx 48 [.agg (aW z),.str a] (.d (.slice 1 ((bS z a).map aP))) []:=by
 have hlen:=oS (z:=z) a hd;refine aA aO mixed Tryz.func48 (by kernel_rfl) rfl (ah rfl) ?_;conv=>whnf
 refine⟨Nat,λk=>⟨[(1,.d (.str a)),(5,.own 5),(11,.d (.slice 5 (z.sets.map az))),(12,.d (.int .i64 ((z.sets.map az).length:Int))),(13,.d (.int .i64 k))],[(5,.row 9 1 ((((z.sets.take k).filter λs=>(s.set.name==a)&&(s.set.type==2)).flatMap λs=>s.set.data.map (·.text)).map aP))]⟩,λk=>k<=z.sets.length,λk=>z.sets.length-k,
  ⟨0,Nat.zero_le _,(aj.nF 5 5 1 9 1 rfl rfl (by decide)).trans (aj.keep ⟨ab,ab,ab,ab,ab,trivial⟩ ⟨ab,trivial⟩)⟩,λk hk=>?_⟩
 dsimp only at hk ⊢
 conv=>whnf
 refine ae (λh1=>?_) (λh1=>?_) <;> (rw[h1];conv=>whnf)
 . have hlt:k<z.sets.length:=by simpa using h1
   obtain⟨s,hs⟩:∃s,z.sets[k]? =some s:=⟨_,ag hlt⟩
   have hsnoc:=CB (a:=a) hs;have hl:=hlen k;have hsd:=hd s (aq hs);generalize hP:(((z.sets.take k).filter λs=>(s.set.name==a)&&(s.set.type==2)).flatMap λs=>s.set.data.map (·.text))=P at *
   generalize hP' :(((z.sets.take (k+1)).filter λs=>(s.set.name==a)&&(s.set.type==2)).flatMap λs=>s.set.data.map (·.text))=P' at *
   have next : ∀ st, aj cx st ⟨[(1, .d (.str a)), (5, .own 5), (11, .d (.slice 5 (z.sets.map az))), (12, .d (.int .i64 ((z.sets.map az).length : Int))), (13, .d (.int .i64 (k + 1 : Nat)))], [(5, .row 9 1 (P'.map aP))]⟩ ->
       ∃y,y<=z.sets.length/\z.sets.length-y<z.sets.length-k/\aj cx st ⟨[(1,.d (.str a)),(5,.own 5),(11,.d (.slice 5 (z.sets.map az))),(12,.d (.int .i64 ((z.sets.map az).length:Int))),(13,.d (.int .i64 (y:Nat)))],[(5,.row 9 1 ((((z.sets.take y).filter λs=>(s.set.name==a)&&(s.set.type==2)).flatMap λs=>s.set.data.map (·.text)).map aP))]⟩:=λst h=>⟨k+1,hlt,by omega,by rw[hP'];exact h⟩
   refine⟨av k,az s,aC hs,?_⟩
   conv=>whnf
   refine ae (λh2=>?_) (λh2=>?_) <;> (rw[h2];conv=>whnf)
   case refine_2 =>
    have h2' :(s.set.name==a)=false:=h2;rw[h2',gW,if_neg (by simp),List.append_nil]at hsnoc;rw[hsnoc]at next
    exact next _ (aj.keep ⟨ab,ab,ab,ab,⟨ao (by omega),rfl⟩,trivial⟩ ⟨ab,trivial⟩)
   refine ae (λh3=>?_) (λh3=>?_) <;> (rw[h3];conv=>whnf)
   case refine_2 =>
    have h3' :(s.set.type==2)=false:=h3;rw[h3',gV,if_neg (by simp),List.append_nil]at hsnoc;rw[hsnoc]at next
    exact next _ (aj.keep ⟨ab,ab,ab,ab,⟨ao (by omega),rfl⟩,trivial⟩ ⟨ab,trivial⟩)
   rw[show(s.set.name==a)=true from h2,show(s.set.type==2)=true from h3,if_pos (show(true&&true)=true from rfl)]at hsnoc;refine⟨Nat,λj=>⟨[(1,.d (.str a)),(5,.own 5),(11,.d (.slice 5 (z.sets.map az))),(12,.d (.int .i64 ((z.sets.map az).length:Int))),(13,.d (.int .i64 k)),(30,.d (.slice 3 (s.set.data.map bt))),(31,.d (.int .i64 ((s.set.data.map bt).length:Int))),(32,.d (.int .i64 j))],[(5,.row 9 1 ((P++(s.set.data.take j).map (·.text)).map aP))]⟩,λj=>j<=s.set.data.length,λj=>s.set.data.length-j,
    ⟨0,Nat.zero_le _,aj.keep ⟨ab,ab,ab,ab,ab,ab,ab,ab,trivial⟩ ⟨⟨by show _=some (Blk.row _ _ ((P++[]).map aP) _);rw[List.append_nil];rfl,rfl⟩,trivial⟩⟩,λj hj=>?_⟩
   dsimp only at hj ⊢
   conv=>whnf
   refine ae (λh4=>?_) (λh4=>?_) <;> (rw[h4];conv=>whnf)
   . have hjl:j<s.set.data.length:=by simpa using h4
     obtain⟨d,hdd⟩:∃d,s.set.data[j]? =some d:=⟨_,ag hjl⟩
     refine⟨av j,bt d,aC hdd,?_⟩
     conv=>whnf
     refine⟨by(show((P++(s.set.data.take j).map (·.text)).map aP).length+1<=_);simp;omega,by(show(((P++(s.set.data.take j).map (·.text)).map aP).length+1)*16<=_);simp;omega,?_⟩
     conv=>whnf
     refine⟨j+1,hjl,by(show s.set.data.length-(j+1)<s.set.data.length-j;omega),aj.keep ⟨ab,ab,ab,ab,ab,ab,ab,⟨ao (by omega),rfl⟩,trivial⟩ ⟨⟨?_,rfl⟩,trivial⟩⟩;have e:(P++(s.set.data.take (j+1)).map (·.text)).map aP=(P++(s.set.data.take j).map (·.text)).map aP++[aP d.text]:=by rw[bg hdd];simp
     rw[e];rfl
   . obtain rfl:j=s.set.data.length:=by simp at h4;omega
     rw[List.take_length, <- hsnoc];exact next _ (aj.keep ⟨ab,ab,ab,ab,⟨ao (by omega),rfl⟩,trivial⟩ ⟨ab,trivial⟩)
 . obtain rfl:k=z.sets.length:=by simp at h1;omega
   rw[List.take_length];exact af rfl rfl
def wm(f:Fnd):Prop:=au f.zone=true/\au f.name=true
theorem Gs(a b:Fnd)(ha:wm a)(hb:wm b):NQ.Fn cx 58 [.agg (cg a),.agg (cg b)] (.d (.int .i64 (gI a b))) []:=by
 have e1:=oU a.zone b.zone;have e2:=oU a.name b.name;rw[show cy a.zone b.zone=(aI a.zone b.zone,0) by unfold cy;rw[if_pos ⟨ha.1,hb.1⟩]]at e1;rw[show cy a.name b.name=(aI a.name b.name,0) by unfold cy;rw[if_pos ⟨ha.2,hb.2⟩]]at e2;refine aA aO mixed Tryz.func58 (by kernel_rfl) rfl (ah rfl) ?_;conv=>whnf
 (refine⟨_,_,e1,?_⟩;conv=>whnf)
 (refine⟨_,_,e2,?_⟩;conv=>whnf)
 (refine⟨_,_,ot a.kind b.kind,?_⟩;conv=>whnf)
 (refine⟨_,Kq [cZ a.kind b.kind,aI a.zone b.zone,aI a.name b.name] (by simp),rfl,?_⟩;conv=>whnf)
 exact af rfl rfl
end Go.Proofs.YtjapjahfllomkaaGreatDoor
namespace NP
open NQ Go
def placeOf:List D->Int×Int
 | .int _ h:: .str _:: .slice _ rows::_=>(h,match rows.find? (λr=>match r with|_:: .int _ t::_=>t==4|_=>false)with
  |some (_::_::_:: .slice _ ((_:: .int _ n::_)::_)::_)=>n
  |_=>0)
 |_=>(0,0)
def Jr(x y:List D):Int:=jL [cZ (placeOf y).2 (placeOf x).2,cZ (placeOf x).1 (placeOf y).1]
theorem Ae(p:ai):placeOf (aN p)=(p.host,gy p.zone):=by
 obtain⟨h,a,l⟩:=p;unfold placeOf aN gy;dsimp only
 congr 1
 have e:(l.map az).find? (λr=>match r with|_:: .int _ t::_=>t==4|_=>false)=(l.find? λs=>s.set.type==4).map az:=by
  rw[List.find?_map];rfl
 rw[e];cases l.find? (λs=>s.set.type==4)with
 |none=>rfl
 |some s =>
  obtain⟨⟨n,t,li,da⟩,sg⟩:=s;cases da with
  |nil=>rfl
  |cons d r=>rfl
theorem yc(p q:ai):Jr (aN p) (aN q)=ic p q:=by unfold Jr;rw[Ae,Ae];rfl
def SV(w:ay):List AV:=(ba (uJ w)).map .d++[.d (.kmap ((bV (fb w.zones)).map cK)),.d (.kmap (kS (vU w)))]
def cW(w:ay)(F:Nat):List AV:=SV w++[.omap F]
end NP
namespace Go.Proofs.YtjapjahfllomkaaGreatDoor
open NQ Go NP Go.RowKit
noncomputable def cxC:Cx:={cx with chg:=λg=>match Nat.beq g 101 with|true=>2|false=>cx.chg g}
theorem tyC:bo cxC:=aO
theorem Tt:cxC.P.follows .mixedOrders=true:=mixed
theorem Nq(l:List ai)(hv:∀p∈l,aY p.zone=true)(hl:l.length<=100000)(fl:Bool):FnR cx 101 false 45 3 (l.map aN) fl [.fn 102 [] []] ((dm ic l).map aN):=by
 rw[<- vW aN ic Jr l λx _ y _=>yc x y];exact yN (cx:=cx) (ρ:=Tryz.xE) Tryz.Sv (k:=3) Tryz.isAgg45 Tryz.sizeOf45 ⟨_,Tryz.func101,by kernel_rfl,rfl⟩
  (λx hx y hy=>by
   obtain⟨a,ha,rfl⟩:=List.mem_map.1 hx;obtain⟨b,hb,rfl⟩:=List.mem_map.1 hy;rw[yc];exact RZ a b (hv a ha) (hv b hb)) (enters_of Tryz.func102 (by kernel_rfl) rfl) ((pB l).map λx _ y _=>yc x y) (by rw[ak];omega)
def fzC:Nat->List Nat
 |3=>[88888]
 |5=>[23]
 |8=>[66666]
 |14=>[16,17,200]
 |_=>[]
set_option maxHeartbeats 4000000 in
theorem vG(w:ay)(hF:cw w)(hv:aK w=true):NQ.Fn cx 44 [.agg (ba w)] (.agg (cW w 18)) [(18,.smap [])]:=by
 show NQ.Fn cxC _ _ _ _
 have hZ:=bE hv;have hzl:=hF.zones;have hS:=λfl=>Nq w.zones (λp hp=>(hZ p hp).1) (by omega) fl
 have hperm:=gP (pB w.zones);have hcen:fb w.zones=jZ (dm ic w.zones):=rfl;have hsit:vU w=lM w (dm ic w.zones):=rfl;unfold cW SV uJ eL;rw[hcen,hsit];generalize dm ic w.zones=L at *
 have hLm:∀p∈L,p∈w.zones:=λp hp=>hperm.subset hp
 have hLl:L.length=w.zones.length:=hperm.length_eq;refine cH fzC tyC Tt Tryz.func44 (by kernel_rfl) rfl (ah rfl) ?_
 conv=>whnf
 refine⟨av _,.inl rfl,av _,by(show((w.zones.map aN).length:Int).toNat*48<=_;rw[ak];omega),by(show((w.zones.map aN).length:Int)<=_;rw[ak];omega),?_⟩
 conv=>whnf
 refine⟨by(show(w.zones.map aN).length=_;rw[List.length_replicate];rfl),?_⟩
 conv=>whnf
 refine⟨_,hS _,?_⟩
 conv=>whnf
 refine ⟨Nat, fun k => ⟨[(1, .ptr 1 0), (2, .ptr 2 0), (3, .ptr 3 0), (30, .d (.slice 3 (L.map aN))), (31, .d (.int .i64 ((L.map aN).length : Int))), (32, .d (.int .i64 k))],
     [(1,.box ((ba w).map .d)),(2,.box [.nil 3,.nil 3,.d (.str []),.d (.int .i64 0),.d (.int .i64 0),.nil 3,.nil 1,.d .nmap,.d .nmap,.d .nmap]),(3,.box (.d (.slice 3 (w.hosts.map dw)):: .own 200::(((ba w).drop 2).map .d++[.omap 16,.omap 17,.omap 18]))),(200,.row 45 3 ((jZ (L.take k)).map aN)),(16,.smap (bV (jZ (L.take k)))),(17,.kmap (kS (lM w (L.take k)))),(18,.smap [])]⟩,
  λk=>k<=L.length,λk=>L.length-k,⟨0,Nat.zero_le _,(aj.mU 3 1 200 3 (.d (.slice 3 (w.hosts.map dw)):: .nil 3::(((ba w).drop 2).map .d++[.omap 16,.omap 17,.omap 18])) 45 3 rfl rfl rfl (by decide)).trans (aj.keep ⟨ab,ab,ab,ab,ab,ab,trivial⟩ ⟨ab,ab,ab,ab,ab,ab,ab,trivial⟩)⟩,λk hk=>?_⟩
 dsimp only at hk ⊢
 conv=>whnf
 refine ae (λh1=>?_) (λh1=>?_) <;> (rw[h1];conv=>whnf)
 . have hlt:k<L.length:=by simpa using h1
   obtain⟨p,hp⟩:∃p,L[k]? =some p:=⟨_,ag hlt⟩
   obtain⟨_,h0,hh⟩:=hZ p (hLm p (aq hp));obtain⟨hk',hke⟩:∃j:Nat,p.host=(j:Int):=⟨p.host.toNat,by omega⟩
   obtain⟨h,hhk⟩:∃h,w.hosts[hk']? =some h:=⟨_,ag (by omega)⟩
   have haddr:mZ w p=(p.zone.apex,h.addr):=by unfold mZ addrOf;rw[hke,Int.toNat_natCast,hhk]
   have hput:mO [.str,.int .i64] [.str p.zone.apex,.int .i64 h.addr] (.bool true) (kS (lM w (L.take k)))=some (kS (lM w (L.take (k+1)))):=by
    rw[Cy,bg hp,Hk,haddr];rfl
   have hcf:=ku p.zone.apex (jZ (L.take k));have hpk:jZ (L.take (k+1))=bZ (jZ (L.take k)) p:=by rw[bg hp,Kx]
   have hpl:(jZ (L.take k)).length<=L.length:=by
    have:=rE (L.take k) [];rw[List.length_take]at this;have h2:(jZ (L.take k)).length<=0+min k L.length:=this;omega
   generalize hP:jZ (L.take k)=P at *
   generalize hS1:lM w (L.take (k+1))=S1 at *
   refine⟨av k,aN p,aC hp,?_⟩
   conv=>whnf
   have hget:(w.hosts.map dw)[p.host.toNat]? =some (dw h):=by rw[hke,Int.toNat_natCast,aQ,hhk];rfl
   (refine⟨(by kernel_rfl:jQ _=true),?_⟩;conv=>whnf)
   repeat' (first
    |(refine⟨h0,dw h,hget,?_⟩;conv=>whnf)
    |(refine⟨_,hput,?_⟩;conv=>whnf)
    |(refine⟨by kernel_rfl,?_⟩;conv=>whnf)
    |(refine⟨?_,?_⟩ <;> (conv=>whnf))
    |fail)
   all_goals
    cases hq:P.find? (λx=>x.zone.apex==p.zone.apex)with
    |some q =>
     rw[hq]at hcf;have hcf:cJ p.zone.apex (bV P)=some (.agg (aW q.zone)):=hcf;have hhas:rO P p.zone.apex=true:=by unfold rO;rw[List.any_eq_true];exact⟨q,List.mem_of_find?_eq_some hq,by have h9:=List.find?_some hq;exact h9⟩
     rw[hcf]
     conv=>whnf
     refine⟨k+1,hlt,by(show L.length-(k+1)<L.length-k;omega),aj.keep ⟨ab,ab,ab,ab,ab,⟨ao (by omega),rfl⟩,trivial⟩ ⟨ab,ab,ab,⟨?_,rfl⟩,⟨?_,rfl⟩,⟨?_,rfl⟩,ab,trivial⟩⟩
     . rw[hpk];unfold bZ;rw[if_pos hhas];rfl
     . rw[hpk];unfold bZ;rw[if_pos hhas];rfl
     . rw[hS1];rfl
    |none =>
     rw[hq]at hcf;have hcf:cJ p.zone.apex (bV P)=none:=hcf;have hhas:rO P p.zone.apex=false:=by
      unfold rO;rw[List.any_eq_false];exact List.find?_eq_none.1 hq
     rw[hcf]
     conv=>whnf
     refine⟨by(show(P.map aN).length+1<=_);rw[ak];omega,by(show((P.map aN).length+1)*48<=_);rw[ak];omega,?_⟩
     conv=>whnf
     refine⟨k+1,hlt,by(show L.length-(k+1)<L.length-k;omega),aj.keep ⟨ab,ab,ab,ab,ab,⟨ao (by omega),rfl⟩,trivial⟩ ⟨ab,ab,ab,⟨?_,rfl⟩,⟨?_,rfl⟩,⟨?_,rfl⟩,ab,trivial⟩⟩
     . rw[hpk];unfold bZ;rw[if_neg (by rw[hhas];simp),List.map_append];rfl
     . rw[hpk];unfold bZ;rw[if_neg (by rw[hhas];simp), <- xe hhas];rfl
     . rw[hS1];rfl
 . obtain rfl:k=L.length:=by simp at h1;omega
   rw[List.take_length];exact tX (bs:=[(18,.smap [])]) rfl rfl ⟨⟨rfl,rfl⟩,trivial⟩
end Go.Proofs.YtjapjahfllomkaaGreatDoor
namespace NP
open NQ Go
def Jq(w:ay)(m:List (Bs×List Int)):List D:=ba (uJ w)++[.kmap ((bV (fb w.zones)).map cK),.kmap (kS (vU w)),.kmap ((cG m).map cK)]
theorem uC(zs:List ai)(f:Nat)(s:Bs):gk zs (f+1) s=if s=[46]then none else if (aR zs (bw s)).isSome=true then some (bw s)else gk zs f (bw s):=rfl
theorem rr{A:Ans×Int}(h:¬(A.2=0/\(A.1.kind=1\/A.1.kind=2))):iE A=[]:=by unfold iE;rw[if_neg h]
def iu(l:List Signed):List Datum:=match (l.filter λs=>s.set.type==1).getLast? with|some s=>s.set.data|none=>[]
theorem gO{l:List Signed}{k:Nat}{s:Signed}(h:l[k]? =some s):iu (l.take (k+1))=if (s.set.type==1)=true then s.set.data else iu (l.take k):=by
 unfold iu;rw[bg h,List.filter_append];by_cases hb:(s.set.type==1)=true
 . rw[if_pos hb,List.filter_cons_of_pos (by exact hb)];simp
 . rw[if_neg hb,List.filter_cons_of_neg (by exact hb)];simp
theorem lG{A:Ans×Int}(h:A.2=0/\(A.1.kind=1\/A.1.kind=2)):iE A=iu A.1.sets:=by unfold iE;rw[if_pos h];rfl
end NP
namespace Go.Proofs.YtjapjahfllomkaaGreatDoor
open NQ Go NP Go.RowKit
theorem Ct(w:ay)(m:List (Bs×List Int))(a:Bs)(n:Int):NQ.Fn cx 52 [.agg (Jq w m),.str a,.int .i64 n] (.d (.bool (bc w a n))) []:=by
 refine aA aO mixed Tryz.func52 (by kernel_rfl) rfl (ah rfl) ?_;conv=>whnf
 refine⟨_,Aq a n _,?_⟩;rw[FF];cases bc w a n with
 |true =>
  conv=>whnf
  exact af rfl rfl
 |false =>
  conv=>whnf
  exact af rfl rfl
theorem Fb(w:ay)(m:List (Bs×List Int))(a:Bs)(n:Int):NQ.Fn cx 51 [.int .i64 n,.ptr (Jq w m),.ptr [.str a]] (.d (.bool (!bc w a n))) []:=by
 refine aA aO mixed Tryz.func51 (by kernel_rfl) rfl (ah rfl) ?_;conv=>whnf
 (refine⟨_,_,Ct w m a n,?_⟩;conv=>whnf)
 exact af rfl rfl
theorem JU(l:List Int)(p:Int->Bool)(x y:D)(hn:l.length<=100000)(hf:∀s∈l,NQ.Fn cx 51 [.int .i64 s,x,y] (.d (.bool (p s))) []) :
 NQ.Fn cx 106 [.slice 1 (l.map bd),.fn 51 [] [x,y]] (.d (.int .i64 (match l.findIdx? p with|some k=>(k:Int)|none=> -1))) []:=by
 refine aA aO mixed Tryz.func106 (by kernel_rfl) rfl (ah rfl) ?_;conv=>whnf
 refine⟨Nat,λk=>⟨[(0,.d (.slice 1 (l.map bd))),(1,.d (.fn 51 [] [x,y])),(6,.d (.slice 1 (l.map bd))),(7,.d (.int .i64 ((l.map bd).length:Int))),(8,.d (.int .i64 k))],[]⟩,λk=>k<=l.length/\ ∀j y,j<k->l[j]? =some y->p y=false,λk=>l.length-k,
  ⟨0,⟨by omega,λj y h=>by omega⟩,aj.keep ⟨ab,ab,ab,ab,ab,trivial⟩ trivial⟩,λk hk=>?_⟩
 obtain⟨hk,hall⟩:=hk
 conv=>whnf
 refine ae (λh1=>?_) (λh1=>?_) <;> (rw[h1];conv=>whnf)
 . have hlt:k<l.length:=by simp at h1;omega
   obtain⟨s,hs⟩:∃s,l[k]? =some s:=⟨_,ag hlt⟩
   refine⟨av k,bd s,aC hs,?_⟩
   conv=>whnf
   (refine⟨_,_,hf s (aq hs),?_⟩;conv=>whnf)
   refine ae (λh2=>?_) (λh2=>?_) <;> (rw[h2];conv=>whnf)
   . refine af rfl ?_;have:l.findIdx? p=some k:=by
      rw[List.findIdx?_eq_some_iff_getElem];obtain⟨g1,g2⟩:=ar.1 hs;refine⟨g1,by rw[g2];exact h2,λj hj=>?_⟩;have:=hall j (l[j]) hj (ag (by omega));rw[this];decide
     rw[this];rfl
   . refine⟨k+1,⟨hlt,λj y hj hy=>?_⟩,by(show l.length-(k+1)<l.length-k;omega),aj.keep ⟨ab,ab,ab,ab,⟨ao (by omega),rfl⟩,trivial⟩ trivial⟩;rcases Nat.lt_succ_iff_lt_or_eq.1 hj with hj|rfl
     . exact hall j y hj hy
     . rw[hs]at hy;cases hy;exact h2
 . obtain rfl:k=l.length:=by simp at h1;omega
   refine af rfl ?_;have:l.findIdx? p=none:=by
    rw[List.findIdx?_eq_none_iff];intro x hx;obtain⟨i,hi⟩:=cm hx;exact hall i x (ar.1 hi).1 hi
   rw[this];rfl
theorem Jd(w:ay)(m:List (Bs×List Int))(a:Bs)(l:List Int)(hl:l.length<=100000):NQ.Fn cx 50 [.slice 1 (l.map bd),.fn 51 [] [.ptr (Jq w m),.ptr [.str a]]] (.d (.bool (l.any λn=> !bc w a n))) []:=by
 refine aA aO mixed Tryz.func50 (by kernel_rfl) rfl (ah rfl) ?_;conv=>whnf
 (refine⟨_,_,JU l (λn=> !bc w a n) _ _ hl (λs _=>Fb w m a s),?_⟩;conv=>whnf)
 refine af rfl ?_;show AV.d (D.bool (decide ((match l.findIdx? (λn=> !bc w a n)with|some k=>(k:Int)|none=> -1)>=0)))=_
 congr 2
 cases h:l.findIdx? (λn=> !bc w a n)with
 |some k =>
  obtain⟨h1,h2,_⟩:=List.findIdx?_eq_some_iff_getElem.1 h;rw[decide_eq_true (av k)];exact(List.any_eq_true.2 ⟨_,List.getElem_mem h1,h2⟩).symm
 |none =>
  symm
  show(l.any λn=> !bc w a n)=false
  rw[List.any_eq_false];intro x hx;have:=List.findIdx?_eq_none_iff.1 h x hx;simpa using this
noncomputable def cxF:Cx:={cx with chg:=λg=>match Nat.beq g 46 with|true=>6|false=>(match Nat.beq g 49 with|true=>6|false=>(match Nat.beq g 45 with|true=>6|false=>cx.chg g))}
theorem tyF:bo cxF:=aO
theorem qe:cxF.P.follows .mixedOrders=true:=mixed
def hCA(w:ay)(m:List (Bs×List Int)):List (Nat×Blk):=[(100004,.box (cW w 18)),(18,.smap (cG m))]
set_option maxHeartbeats 2000000 in
theorem FG(w:ay)(m:List (Bs×List Int))(a:Bs)(hF:cw w)(hv:aK w=true)(ha:au a=true):FnH cxF 46 [.agg (cW w 18),.d (.str a)] (hCA w m) (.tuple [.d (.slice 1 ((bB w.zones a).1.map aP)),.d (.bool (bB w.zones a).2)]) (hCA w m):=by
 have hg:mC w.zones:=λp hp=>⟨hF.few p hp,(bE hv p hp).1⟩
 have hT:∀{b:Bs} {x:Nat×ai},aR w.zones b=some x-> ∀s,NQ.Fn cx 48 [.agg (aW x.2.zone),.str s] (.d (.slice 1 ((bS x.2.zone s).map aP))) []:=λ{b x} h s=>by
  have h1:=(cF h).1;have h2:=dv (hg _ h1).1;exact oz x.2.zone s (by omega) λs hs=>by have:=(h2.2 s hs).1;omega
 have hfind:∀b,eS (.str b) ((bV (fb w.zones)).map cK)=some ((aR w.zones b).map λx=>D.agg (aW x.2.zone)):=λb=>by
  rw[pO,ku,xZ hv];cases aR w.zones b <;> rfl
 refine mM (λ_=>[]) tyF qe Tryz.func46 (by kernel_rfl) rfl (ah rfl) (ah rfl) ?_
 conv=>whnf
 refine⟨Nat×Bs,λx=>⟨[(1,.d (.str a)),(2,.ptr 2 0),(6,.d (.str x.2))],(2,.box (cW w 18))::hCA w m⟩,λx=>au x.2=true/\(bj x.2).length<x.1/\gk w.zones x.1 x.2=cR w.zones a,λx=>x.1,
  ⟨((bj a).length+1,a),⟨ha,Nat.lt_succ_self _,rfl⟩,aj.keep ⟨ab,ab,ab,trivial⟩ ⟨ab,ab,ab,trivial⟩⟩,λ⟨f,b⟩ ⟨hbv,hf,hinv⟩=>?_⟩
 dsimp only at hbv hf hinv ⊢;obtain⟨f,rfl⟩:∃g,f=g+1:=⟨f-1,by omega⟩
 rw[uC]at hinv
 conv=>whnf
 refine ae (λh1=>?_) (λh1=>?_) <;> (rw[h1];conv=>whnf)
 . have hne:b≠[46]:=by simpa using h1
   rw[if_neg hne]at hinv;have fP:=om b;rw[show dQ b=(bw b,0) by unfold dQ;rw[if_pos hbv,if_neg hne]]at fP
   (refine⟨_,_,fP,?_⟩;conv=>whnf)
   refine⟨_,hfind (bw b),?_⟩;cases hc:aR w.zones (bw b)with
   |some x =>
    rw[hc]at hinv;have hinv:some (bw b)=cR w.zones a:=hinv
    conv=>whnf
    (refine⟨_,_,hT hc a,?_⟩;conv=>whnf)
    have e:bB w.zones a=(bS x.2.zone a,decide (0<(bS x.2.zone a).length)):=by
     unfold bB;rw[<- hinv];unfold fK;dsimp only;rw[hc]
    rw[e];have hd:decide ((((bS x.2.zone a).map aP).length:Int)>0)=decide (0<(bS x.2.zone a).length):=by rw[ak];congr 1;simp
    refine⟨[(4,.d (.slice 1 ((bS x.2.zone a).map aP))),(5,.d (.bool (decide (0<(bS x.2.zone a).length))))],aj.keep ⟨ab,⟨by rw[<- hd];rfl,rfl⟩,trivial⟩ ⟨ab,ab,trivial⟩,rfl⟩
   |none =>
    rw[hc]at hinv;have hinv:gk w.zones f (bw b)=cR w.zones a:=hinv;obtain⟨_,_,h3⟩:=kT hbv (mA b) hne
    conv=>whnf
    exact⟨(f,bw b),⟨ga hbv,by dsimp only;omega,hinv⟩,by(show f<f+1;omega),aj.keep ⟨ab,ab,ab,trivial⟩ ⟨ab,ab,ab,trivial⟩⟩
 . have hb:b=[46]:=by simpa using h1
   rw[if_pos hb]at hinv;have hinv:none=cR w.zones a:=hinv;refine ae (λh2=>?_) (λh2=>?_) <;> (rw[h2];conv=>whnf)
   . have hne:a≠[46]:=by simpa using h2
     have e:bB w.zones a=([],false):=by unfold bB;rw[<- hinv];dsimp only;rw[if_neg hne]
     rw[e];exact⟨[(4,.d (.slice 1 [])),(5,.d (.bool false))],(aj.qf 4 1 rfl).trans (aj.keep ⟨ab,ab,trivial⟩ ⟨ab,ab,trivial⟩),rfl⟩
   . have ha46:a=[46]:=by simpa using h2
     refine⟨_,hfind a,?_⟩;cases hc:aR w.zones a with
     |some x =>
      conv=>whnf
      (refine⟨_,_,hT hc a,?_⟩;conv=>whnf)
      have e:bB w.zones a=(bS x.2.zone a,true):=by unfold bB;rw[<- hinv];dsimp only;rw[if_pos ha46];unfold fK;rw[hc]
      rw[e];exact⟨[(4,.d (.slice 1 ((bS x.2.zone a).map aP))),(5,.d (.bool true))],aj.keep ⟨ab,ab,trivial⟩ ⟨ab,ab,trivial⟩,rfl⟩
     |none =>
      conv=>whnf
      (refine⟨_,_,oz ⟨[],[]⟩ a (by simp) (λs hs=>by cases hs),?_⟩;conv=>whnf)
      have e:bB w.zones a=([],true):=by unfold bB;rw[<- hinv];dsimp only;rw[if_pos ha46];unfold fK;rw[hc]
      rw[e];exact⟨[(4,.d (.slice 1 [])),(5,.d (.bool true))],aj.keep ⟨ab,ab,trivial⟩ ⟨ab,ab,trivial⟩,rfl⟩
def hCB(w:ay)(m:List (Bs×List Int)):List (Nat×Blk):=[(100006,.box (cW w 18)),(18,.smap (cG m))]
set_option maxHeartbeats 2000000 in
theorem FH(w:ay)(m:List (Bs×List Int))(a:Bs)(hF:cw w)(hv:aK w=true)(ha:au a=true):FnH cxF 46 [.agg (cW w 18),.d (.str a)] (hCB w m) (.tuple [.d (.slice 1 ((bB w.zones a).1.map aP)),.d (.bool (bB w.zones a).2)]) (hCB w m):=by
 have hg:mC w.zones:=λp hp=>⟨hF.few p hp,(bE hv p hp).1⟩
 have hT:∀{b:Bs} {x:Nat×ai},aR w.zones b=some x-> ∀s,NQ.Fn cx 48 [.agg (aW x.2.zone),.str s] (.d (.slice 1 ((bS x.2.zone s).map aP))) []:=λ{b x} h s=>by
  have h1:=(cF h).1;have h2:=dv (hg _ h1).1;exact oz x.2.zone s (by omega) λs hs=>by have:=(h2.2 s hs).1;omega
 have hfind:∀b,eS (.str b) ((bV (fb w.zones)).map cK)=some ((aR w.zones b).map λx=>D.agg (aW x.2.zone)):=λb=>by
  rw[pO,ku,xZ hv];cases aR w.zones b <;> rfl
 refine mM (λ_=>[]) tyF qe Tryz.func46 (by kernel_rfl) rfl (ah rfl) (ah rfl) ?_
 conv=>whnf
 refine⟨Nat×Bs,λx=>⟨[(1,.d (.str a)),(2,.ptr 2 0),(6,.d (.str x.2))],(2,.box (cW w 18))::hCB w m⟩,λx=>au x.2=true/\(bj x.2).length<x.1/\gk w.zones x.1 x.2=cR w.zones a,λx=>x.1,
  ⟨((bj a).length+1,a),⟨ha,Nat.lt_succ_self _,rfl⟩,aj.keep ⟨ab,ab,ab,trivial⟩ ⟨ab,ab,ab,trivial⟩⟩,λ⟨f,b⟩ ⟨hbv,hf,hinv⟩=>?_⟩
 dsimp only at hbv hf hinv ⊢;obtain⟨f,rfl⟩:∃g,f=g+1:=⟨f-1,by omega⟩
 rw[uC]at hinv
 conv=>whnf
 refine ae (λh1=>?_) (λh1=>?_) <;> (rw[h1];conv=>whnf)
 . have hne:b≠[46]:=by simpa using h1
   rw[if_neg hne]at hinv;have fP:=om b;rw[show dQ b=(bw b,0) by unfold dQ;rw[if_pos hbv,if_neg hne]]at fP
   (refine⟨_,_,fP,?_⟩;conv=>whnf)
   refine⟨_,hfind (bw b),?_⟩;cases hc:aR w.zones (bw b)with
   |some x =>
    rw[hc]at hinv;have hinv:some (bw b)=cR w.zones a:=hinv
    conv=>whnf
    (refine⟨_,_,hT hc a,?_⟩;conv=>whnf)
    have e:bB w.zones a=(bS x.2.zone a,decide (0<(bS x.2.zone a).length)):=by
     unfold bB;rw[<- hinv];unfold fK;dsimp only;rw[hc]
    rw[e];have hd:decide ((((bS x.2.zone a).map aP).length:Int)>0)=decide (0<(bS x.2.zone a).length):=by rw[ak];congr 1;simp
    refine⟨[(4,.d (.slice 1 ((bS x.2.zone a).map aP))),(5,.d (.bool (decide (0<(bS x.2.zone a).length))))],aj.keep ⟨ab,⟨by rw[<- hd];rfl,rfl⟩,trivial⟩ ⟨ab,ab,trivial⟩,rfl⟩
   |none =>
    rw[hc]at hinv;have hinv:gk w.zones f (bw b)=cR w.zones a:=hinv;obtain⟨_,_,h3⟩:=kT hbv (mA b) hne
    conv=>whnf
    exact⟨(f,bw b),⟨ga hbv,by dsimp only;omega,hinv⟩,by(show f<f+1;omega),aj.keep ⟨ab,ab,ab,trivial⟩ ⟨ab,ab,ab,trivial⟩⟩
 . have hb:b=[46]:=by simpa using h1
   rw[if_pos hb]at hinv;have hinv:none=cR w.zones a:=hinv;refine ae (λh2=>?_) (λh2=>?_) <;> (rw[h2];conv=>whnf)
   . have hne:a≠[46]:=by simpa using h2
     have e:bB w.zones a=([],false):=by unfold bB;rw[<- hinv];dsimp only;rw[if_neg hne]
     rw[e];exact⟨[(4,.d (.slice 1 [])),(5,.d (.bool false))],(aj.qf 4 1 rfl).trans (aj.keep ⟨ab,ab,trivial⟩ ⟨ab,ab,trivial⟩),rfl⟩
   . have ha46:a=[46]:=by simpa using h2
     refine⟨_,hfind a,?_⟩;cases hc:aR w.zones a with
     |some x =>
      conv=>whnf
      (refine⟨_,_,hT hc a,?_⟩;conv=>whnf)
      have e:bB w.zones a=(bS x.2.zone a,true):=by unfold bB;rw[<- hinv];dsimp only;rw[if_pos ha46];unfold fK;rw[hc]
      rw[e];exact⟨[(4,.d (.slice 1 ((bS x.2.zone a).map aP))),(5,.d (.bool true))],aj.keep ⟨ab,ab,trivial⟩ ⟨ab,ab,trivial⟩,rfl⟩
     |none =>
      conv=>whnf
      (refine⟨_,_,oz ⟨[],[]⟩ a (by simp) (λs hs=>by cases hs),?_⟩;conv=>whnf)
      have e:bB w.zones a=([],true):=by unfold bB;rw[<- hinv];dsimp only;rw[if_pos ha46];unfold fK;rw[hc]
      rw[e];exact⟨[(4,.d (.slice 1 [])),(5,.d (.bool true))],aj.keep ⟨ab,ab,trivial⟩ ⟨ab,ab,trivial⟩,rfl⟩
end Go.Proofs.YtjapjahfllomkaaGreatDoor
namespace NP
open NQ Go
open Go.Proofs.YtjapjahfllomkaaGreatDoor (bd)
theorem zm{w:ay}{m:List (Bs×List Int)}{s:Bs}{x:List Int}(h:iW m s=some x):kq w m s=m:=by unfold kq;rw[h];rfl
theorem zn{w:ay}{m:List (Bs×List Int)}{s:Bs}(h:iW m s=none):dG s (.slice 1 ((cT w s).map bd)) (cG m)=cG (kq w m s):=by
 rw[zo h];unfold kq;rw[h];rfl
end NP
namespace Go.Proofs.YtjapjahfllomkaaGreatDoor
open NQ Go NP Go.RowKit
def To:Nat->List Nat
 |13=>[55555]
 |_=>[]
set_option maxHeartbeats 2000000 in
theorem si(w:ay)(m:List (Bs×List Int))(s:Bs)(hF:cw w)(hv:aK w=true)(hm:kY w m):FnH cxF 49 [.agg (cW w 18),.d (.str s)] (hCA w m) (.d (.slice 1 ((cT w s).map bd))) (hCA w (kq w m s)):=by
 have fT:=yS (uJ w) ⟨s,1⟩ (Ic hF hv);rw[BR hv]at fT;have hsm:=nZ hF ⟨s,1⟩;have hput:=zn (w:=w) (m:=m) (s:=s);have hhit:∀x,iW m s=some x->x=cT w s:=λx h=>BP hm h
 have hadr:cT w s=(iE (dA w ⟨s,1⟩)).map (·.n):=rfl;generalize cT w s=AD at *
 generalize dA w ⟨s,1⟩=A at *
 obtain⟨A,e⟩:=A;dsimp only at fT hsm;have hlen:=hsm.len;refine mM To tyF qe Tryz.func49 (by kernel_rfl) rfl (ah rfl) (ah rfl) ?_
 conv=>whnf
 rw[rD];cases hf:iW m s with
 |some x =>
  conv=>whnf
  rw[zm hf, <- hhit x hf];exact⟨[(4,.d (.slice 1 (x.map bd)))],aj.keep ⟨ab,trivial⟩ ⟨ab,ab,trivial⟩,rfl⟩
 |none =>
  conv=>whnf
  (refine⟨_,_,fT,?_⟩;conv=>whnf)
  have none0:¬(e=0/\(A.kind=1\/A.kind=2))->AD=[]:=λh=>by rw[hadr,rr h];rfl
  cases h1:(e==0)with
  |false =>
   have hAD:=none0 (λh=>by rw[h.1]at h1;cases h1);subst hAD
   conv=>whnf
   refine⟨⟨[(1,.d (.str s)),(2,.ptr 2 0),(7,.d (.slice 1 []))],[(2,.box (cW w 18)),(100004,.box (cW w 18)),(18,.smap (cG m))]⟩,(aj.qf 7 1 rfl).trans (aj.keep ⟨ab,ab,ab,trivial⟩ ⟨ab,ab,ab,trivial⟩),?_⟩
   conv=>whnf
   exact⟨[(4,.d (.slice 1 []))],aj.keep ⟨ab,trivial⟩ ⟨ab,⟨congrArg (λm=>some (Blk.smap m)) (hput hf),rfl⟩,trivial⟩,rfl⟩
  |true =>
   have he:e=0:=by simpa using h1
   conv=>whnf
   cases h2:(A.kind==1)with
   |true =>
    have hk2:A.kind=1\/A.kind=2:= .inl (by simpa using h2)
    conv=>whnf
    refine⟨Nat,λk=>⟨[(1,.d (.str s)),(2,.ptr 2 0),(7,.d (.slice 1 (((iu (A.sets.take k)).map (·.n)).map bd))),(42,.d (.slice 5 (A.sets.map az))),(43,.d (.int .i64 ((A.sets.map az).length:Int))),(44,.d (.int .i64 k))],[(2,.box (cW w 18)),(100004,.box (cW w 18)),(18,.smap (cG m))]⟩,λk=>k<=A.sets.length,λk=>A.sets.length-k,
     ⟨0,Nat.zero_le _,(aj.qf 7 1 rfl).trans (aj.keep ⟨ab,ab,ab,ab,ab,ab,trivial⟩ ⟨ab,ab,ab,trivial⟩)⟩,λk hk=>?_⟩
    dsimp only at hk ⊢
    conv=>whnf
    refine ae (λh4=>?_) (λh4=>?_) <;> (rw[h4];conv=>whnf)
    . have hlt:k<A.sets.length:=by simpa using h4
      obtain⟨x,hx⟩:∃x,A.sets[k]? =some x:=⟨_,ag hlt⟩
      refine⟨av k,az x,aC hx,?_⟩
      conv=>whnf
      refine ae (λh5=>?_) (λh5=>?_) <;> (rw[h5];conv=>whnf)
      . (refine⟨_,_,mR x.set (hsm.small x (aq hx)).1,?_⟩;conv=>whnf)
        refine⟨k+1,hlt,by(show A.sets.length-(k+1)<A.sets.length-k;omega),aj.keep ⟨ab,ab,⟨?_,rfl⟩,ab,ab,⟨ao (by omega),rfl⟩,trivial⟩ ⟨ab,ab,ab,trivial⟩⟩;rw[gO hx,if_pos h5];rfl
      . refine⟨k+1,hlt,by(show A.sets.length-(k+1)<A.sets.length-k;omega),aj.keep ⟨ab,ab,⟨?_,rfl⟩,ab,ab,⟨ao (by omega),rfl⟩,trivial⟩ ⟨ab,ab,ab,trivial⟩⟩;rw[gO hx,if_neg (by rw[show(x.set.type==1)=false from h5];simp)];rfl
    . obtain rfl:k=A.sets.length:=by simp at h4;omega
      rw[List.take_length];have hAD:AD=(iu A.sets).map (·.n):=by rw[hadr,lG ⟨he,hk2⟩]
      rw[<- hAD];refine⟨⟨[(1,.d (.str s)),(2,.ptr 2 0),(7,.d (.slice 1 (AD.map bd)))],[(2,.box (cW w 18)),(100004,.box (cW w 18)),(18,.smap (cG m))]⟩,aj.keep ⟨ab,ab,ab,trivial⟩ ⟨ab,ab,ab,trivial⟩,?_⟩
      conv=>whnf
      exact⟨[(4,.d (.slice 1 (AD.map bd)))],aj.keep ⟨ab,trivial⟩ ⟨ab,⟨congrArg (λm=>some (Blk.smap m)) (hput hf),rfl⟩,trivial⟩,rfl⟩
   |false =>
    conv=>whnf
    cases h3:(A.kind==2)with
    |true =>
     have hk2:A.kind=1\/A.kind=2:= .inr (by simpa using h3)
     conv=>whnf
     refine⟨Nat,λk=>⟨[(1,.d (.str s)),(2,.ptr 2 0),(7,.d (.slice 1 (((iu (A.sets.take k)).map (·.n)).map bd))),(42,.d (.slice 5 (A.sets.map az))),(43,.d (.int .i64 ((A.sets.map az).length:Int))),(44,.d (.int .i64 k))],[(2,.box (cW w 18)),(100004,.box (cW w 18)),(18,.smap (cG m))]⟩,λk=>k<=A.sets.length,λk=>A.sets.length-k,
      ⟨0,Nat.zero_le _,(aj.qf 7 1 rfl).trans (aj.keep ⟨ab,ab,ab,ab,ab,ab,trivial⟩ ⟨ab,ab,ab,trivial⟩)⟩,λk hk=>?_⟩
     dsimp only at hk ⊢
     conv=>whnf
     refine ae (λh4=>?_) (λh4=>?_) <;> (rw[h4];conv=>whnf)
     . have hlt:k<A.sets.length:=by simpa using h4
       obtain⟨x,hx⟩:∃x,A.sets[k]? =some x:=⟨_,ag hlt⟩
       refine⟨av k,az x,aC hx,?_⟩
       conv=>whnf
       refine ae (λh5=>?_) (λh5=>?_) <;> (rw[h5];conv=>whnf)
       . (refine⟨_,_,mR x.set (hsm.small x (aq hx)).1,?_⟩;conv=>whnf)
         refine⟨k+1,hlt,by(show A.sets.length-(k+1)<A.sets.length-k;omega),aj.keep ⟨ab,ab,⟨?_,rfl⟩,ab,ab,⟨ao (by omega),rfl⟩,trivial⟩ ⟨ab,ab,ab,trivial⟩⟩;rw[gO hx,if_pos h5];rfl
       . refine⟨k+1,hlt,by(show A.sets.length-(k+1)<A.sets.length-k;omega),aj.keep ⟨ab,ab,⟨?_,rfl⟩,ab,ab,⟨ao (by omega),rfl⟩,trivial⟩ ⟨ab,ab,ab,trivial⟩⟩;rw[gO hx,if_neg (by rw[show(x.set.type==1)=false from h5];simp)];rfl
     . obtain rfl:k=A.sets.length:=by simp at h4;omega
       rw[List.take_length];have hAD:AD=(iu A.sets).map (·.n):=by rw[hadr,lG ⟨he,hk2⟩]
       rw[<- hAD];refine⟨⟨[(1,.d (.str s)),(2,.ptr 2 0),(7,.d (.slice 1 (AD.map bd)))],[(2,.box (cW w 18)),(100004,.box (cW w 18)),(18,.smap (cG m))]⟩,aj.keep ⟨ab,ab,ab,trivial⟩ ⟨ab,ab,ab,trivial⟩,?_⟩
       conv=>whnf
       exact⟨[(4,.d (.slice 1 (AD.map bd)))],aj.keep ⟨ab,trivial⟩ ⟨ab,⟨congrArg (λm=>some (Blk.smap m)) (hput hf),rfl⟩,trivial⟩,rfl⟩
    |false =>
     have hAD:=none0 (λh=>h.2.elim (λh=>by rw[h]at h2;cases h2) (λh=>by rw[h]at h3;cases h3));subst hAD
     conv=>whnf
     refine⟨⟨[(1,.d (.str s)),(2,.ptr 2 0),(7,.d (.slice 1 []))],[(2,.box (cW w 18)),(100004,.box (cW w 18)),(18,.smap (cG m))]⟩,(aj.qf 7 1 rfl).trans (aj.keep ⟨ab,ab,ab,trivial⟩ ⟨ab,ab,ab,trivial⟩),?_⟩
     conv=>whnf
     exact⟨[(4,.d (.slice 1 []))],aj.keep ⟨ab,trivial⟩ ⟨ab,⟨congrArg (λm=>some (Blk.smap m)) (hput hf),rfl⟩,trivial⟩,rfl⟩
set_option maxHeartbeats 2000000 in
theorem AN(w:ay)(m:List (Bs×List Int))(s:Bs)(hF:cw w)(hv:aK w=true)(hm:kY w m):FnH cxF 49 [.agg (cW w 18),.d (.str s)] (hCB w m) (.d (.slice 1 ((cT w s).map bd))) (hCB w (kq w m s)):=by
 have fT:=yS (uJ w) ⟨s,1⟩ (Ic hF hv);rw[BR hv]at fT;have hsm:=nZ hF ⟨s,1⟩;have hput:=zn (w:=w) (m:=m) (s:=s);have hhit:∀x,iW m s=some x->x=cT w s:=λx h=>BP hm h
 have hadr:cT w s=(iE (dA w ⟨s,1⟩)).map (·.n):=rfl;generalize cT w s=AD at *
 generalize dA w ⟨s,1⟩=A at *
 obtain⟨A,e⟩:=A;dsimp only at fT hsm;have hlen:=hsm.len;refine mM To tyF qe Tryz.func49 (by kernel_rfl) rfl (ah rfl) (ah rfl) ?_
 conv=>whnf
 rw[rD];cases hf:iW m s with
 |some x =>
  conv=>whnf
  rw[zm hf, <- hhit x hf];exact⟨[(4,.d (.slice 1 (x.map bd)))],aj.keep ⟨ab,trivial⟩ ⟨ab,ab,trivial⟩,rfl⟩
 |none =>
  conv=>whnf
  (refine⟨_,_,fT,?_⟩;conv=>whnf)
  have none0:¬(e=0/\(A.kind=1\/A.kind=2))->AD=[]:=λh=>by rw[hadr,rr h];rfl
  cases h1:(e==0)with
  |false =>
   have hAD:=none0 (λh=>by rw[h.1]at h1;cases h1);subst hAD
   conv=>whnf
   refine⟨⟨[(1,.d (.str s)),(2,.ptr 2 0),(7,.d (.slice 1 []))],[(2,.box (cW w 18)),(100006,.box (cW w 18)),(18,.smap (cG m))]⟩,(aj.qf 7 1 rfl).trans (aj.keep ⟨ab,ab,ab,trivial⟩ ⟨ab,ab,ab,trivial⟩),?_⟩
   conv=>whnf
   exact⟨[(4,.d (.slice 1 []))],aj.keep ⟨ab,trivial⟩ ⟨ab,⟨congrArg (λm=>some (Blk.smap m)) (hput hf),rfl⟩,trivial⟩,rfl⟩
  |true =>
   have he:e=0:=by simpa using h1
   conv=>whnf
   cases h2:(A.kind==1)with
   |true =>
    have hk2:A.kind=1\/A.kind=2:= .inl (by simpa using h2)
    conv=>whnf
    refine⟨Nat,λk=>⟨[(1,.d (.str s)),(2,.ptr 2 0),(7,.d (.slice 1 (((iu (A.sets.take k)).map (·.n)).map bd))),(42,.d (.slice 5 (A.sets.map az))),(43,.d (.int .i64 ((A.sets.map az).length:Int))),(44,.d (.int .i64 k))],[(2,.box (cW w 18)),(100006,.box (cW w 18)),(18,.smap (cG m))]⟩,λk=>k<=A.sets.length,λk=>A.sets.length-k,
     ⟨0,Nat.zero_le _,(aj.qf 7 1 rfl).trans (aj.keep ⟨ab,ab,ab,ab,ab,ab,trivial⟩ ⟨ab,ab,ab,trivial⟩)⟩,λk hk=>?_⟩
    dsimp only at hk ⊢
    conv=>whnf
    refine ae (λh4=>?_) (λh4=>?_) <;> (rw[h4];conv=>whnf)
    . have hlt:k<A.sets.length:=by simpa using h4
      obtain⟨x,hx⟩:∃x,A.sets[k]? =some x:=⟨_,ag hlt⟩
      refine⟨av k,az x,aC hx,?_⟩
      conv=>whnf
      refine ae (λh5=>?_) (λh5=>?_) <;> (rw[h5];conv=>whnf)
      . (refine⟨_,_,mR x.set (hsm.small x (aq hx)).1,?_⟩;conv=>whnf)
        refine⟨k+1,hlt,by(show A.sets.length-(k+1)<A.sets.length-k;omega),aj.keep ⟨ab,ab,⟨?_,rfl⟩,ab,ab,⟨ao (by omega),rfl⟩,trivial⟩ ⟨ab,ab,ab,trivial⟩⟩;rw[gO hx,if_pos h5];rfl
      . refine⟨k+1,hlt,by(show A.sets.length-(k+1)<A.sets.length-k;omega),aj.keep ⟨ab,ab,⟨?_,rfl⟩,ab,ab,⟨ao (by omega),rfl⟩,trivial⟩ ⟨ab,ab,ab,trivial⟩⟩;rw[gO hx,if_neg (by rw[show(x.set.type==1)=false from h5];simp)];rfl
    . obtain rfl:k=A.sets.length:=by simp at h4;omega
      rw[List.take_length];have hAD:AD=(iu A.sets).map (·.n):=by rw[hadr,lG ⟨he,hk2⟩]
      rw[<- hAD];refine⟨⟨[(1,.d (.str s)),(2,.ptr 2 0),(7,.d (.slice 1 (AD.map bd)))],[(2,.box (cW w 18)),(100006,.box (cW w 18)),(18,.smap (cG m))]⟩,aj.keep ⟨ab,ab,ab,trivial⟩ ⟨ab,ab,ab,trivial⟩,?_⟩
      conv=>whnf
      exact⟨[(4,.d (.slice 1 (AD.map bd)))],aj.keep ⟨ab,trivial⟩ ⟨ab,⟨congrArg (λm=>some (Blk.smap m)) (hput hf),rfl⟩,trivial⟩,rfl⟩
   |false =>
    conv=>whnf
    cases h3:(A.kind==2)with
    |true =>
     have hk2:A.kind=1\/A.kind=2:= .inr (by simpa using h3)
     conv=>whnf
     refine⟨Nat,λk=>⟨[(1,.d (.str s)),(2,.ptr 2 0),(7,.d (.slice 1 (((iu (A.sets.take k)).map (·.n)).map bd))),(42,.d (.slice 5 (A.sets.map az))),(43,.d (.int .i64 ((A.sets.map az).length:Int))),(44,.d (.int .i64 k))],[(2,.box (cW w 18)),(100006,.box (cW w 18)),(18,.smap (cG m))]⟩,λk=>k<=A.sets.length,λk=>A.sets.length-k,
      ⟨0,Nat.zero_le _,(aj.qf 7 1 rfl).trans (aj.keep ⟨ab,ab,ab,ab,ab,ab,trivial⟩ ⟨ab,ab,ab,trivial⟩)⟩,λk hk=>?_⟩
     dsimp only at hk ⊢
     conv=>whnf
     refine ae (λh4=>?_) (λh4=>?_) <;> (rw[h4];conv=>whnf)
     . have hlt:k<A.sets.length:=by simpa using h4
       obtain⟨x,hx⟩:∃x,A.sets[k]? =some x:=⟨_,ag hlt⟩
       refine⟨av k,az x,aC hx,?_⟩
       conv=>whnf
       refine ae (λh5=>?_) (λh5=>?_) <;> (rw[h5];conv=>whnf)
       . (refine⟨_,_,mR x.set (hsm.small x (aq hx)).1,?_⟩;conv=>whnf)
         refine⟨k+1,hlt,by(show A.sets.length-(k+1)<A.sets.length-k;omega),aj.keep ⟨ab,ab,⟨?_,rfl⟩,ab,ab,⟨ao (by omega),rfl⟩,trivial⟩ ⟨ab,ab,ab,trivial⟩⟩;rw[gO hx,if_pos h5];rfl
       . refine⟨k+1,hlt,by(show A.sets.length-(k+1)<A.sets.length-k;omega),aj.keep ⟨ab,ab,⟨?_,rfl⟩,ab,ab,⟨ao (by omega),rfl⟩,trivial⟩ ⟨ab,ab,ab,trivial⟩⟩;rw[gO hx,if_neg (by rw[show(x.set.type==1)=false from h5];simp)];rfl
     . obtain rfl:k=A.sets.length:=by simp at h4;omega
       rw[List.take_length];have hAD:AD=(iu A.sets).map (·.n):=by rw[hadr,lG ⟨he,hk2⟩]
       rw[<- hAD];refine⟨⟨[(1,.d (.str s)),(2,.ptr 2 0),(7,.d (.slice 1 (AD.map bd)))],[(2,.box (cW w 18)),(100006,.box (cW w 18)),(18,.smap (cG m))]⟩,aj.keep ⟨ab,ab,ab,trivial⟩ ⟨ab,ab,ab,trivial⟩,?_⟩
       conv=>whnf
       exact⟨[(4,.d (.slice 1 (AD.map bd)))],aj.keep ⟨ab,trivial⟩ ⟨ab,⟨congrArg (λm=>some (Blk.smap m)) (hput hf),rfl⟩,trivial⟩,rfl⟩
    |false =>
     have hAD:=none0 (λh=>h.2.elim (λh=>by rw[h]at h2;cases h2) (λh=>by rw[h]at h3;cases h3));subst hAD
     conv=>whnf
     refine⟨⟨[(1,.d (.str s)),(2,.ptr 2 0),(7,.d (.slice 1 []))],[(2,.box (cW w 18)),(100006,.box (cW w 18)),(18,.smap (cG m))]⟩,(aj.qf 7 1 rfl).trans (aj.keep ⟨ab,ab,ab,trivial⟩ ⟨ab,ab,ab,trivial⟩),?_⟩
     conv=>whnf
     exact⟨[(4,.d (.slice 1 []))],aj.keep ⟨ab,trivial⟩ ⟨ab,⟨congrArg (λm=>some (Blk.smap m)) (hput hf),rfl⟩,trivial⟩,rfl⟩
end Go.Proofs.YtjapjahfllomkaaGreatDoor
namespace NP
open NQ Go
def BE(z:aF):Nat->Bs->Bool
 |0,_=>false
 |f+1,n=>if n=z.apex then false else if dN z.apex z.sets n=true then true else BE z f (bw n)
def xY(z:aF)(s:Bs):Bool:=BE z ((bj s).length+1) s
def eQ(f:Signed->Bool)(l:List Signed):List (List D):=(l.filter f).map λs=>[.agg (mV s.set)]
def eI(z:aF)(s:Signed):Bool:=(s.set.type==1)&&xY z s.set.name
def tF(z:aF):D:= .ptr [.kmap ((ie z.apex z.sets []).map cK)]
theorem CF(z:aF)(f:Nat)(n:Bs):BE z (f+1) n=if n=z.apex then false else if dN z.apex z.sets n=true then true else BE z f (bw n):=rfl
theorem KO(a:Bs)(m:List (Bs×D)):eS (.str a) (m.map cK)=some (cJ a m):=by
 induction m with
 |nil=>rfl
 |cons p t ih =>
  obtain⟨b,v⟩:=p;show(match eK (.str a) [.tuple [.str b]]with|some true=>_|some false=>eS (.str a) (t.map cK)|none=>none)=(some (if a=b then some v else cJ a t))
  have:eK (.str a) [.tuple [.str b]]=some (a==b):=rfl;rw[this];by_cases h:a=b
  . subst h;simp
  . have:(a==b)=false:=by simp[h]
    rw[this,if_neg h];exact ih
end NP
namespace Go.Proofs.YtjapjahfllomkaaGreatDoor
open NQ Go NP Go.RowKit
def Jh(z:aF):D:= .fn 107 [] [.ptr (aW z),tF z]
theorem RI(z:aF)(hz:z.sets.length<=100000):NQ.Fn cx 53 [.agg (aW z)] (.d (.fn 108 [] [.ptr (aW z),.ptr [Jh z]])) []:=by
 refine cH (fun|_=>[]) aO mixed Tryz.func53 (by kernel_rfl) rfl (ah rfl) ?_
 conv=>whnf
 refine⟨Nat,λk=>⟨[(1,.ptr 1 0),(3,.ptr 3 0),(9,.d (.slice 5 (z.sets.map az))),(10,.d (.int .i64 ((z.sets.map az).length:Int))),(11,.d (.int .i64 k))],[(1,.box ((aW z).map .d)),(3,.box [.omap 7]),(7,.smap (ie z.apex (z.sets.take k) []))]⟩,λk=>k<=z.sets.length,λk=>z.sets.length-k,
  ⟨0,Nat.zero_le _,aj.keep ⟨ab,ab,ab,ab,ab,trivial⟩ ⟨ab,ab,ab,trivial⟩⟩,λk hk=>?_⟩
 dsimp only at hk ⊢
 conv=>whnf
 refine ae (λh1=>?_) (λh1=>?_) <;> (rw[h1];conv=>whnf)
 . have hlt:k<z.sets.length:=by simpa using h1
   obtain⟨s,hs⟩:∃s,z.sets[k]? =some s:=⟨_,ag hlt⟩
   have hm:=rH z.apex s (z.sets.take k) [];rw[<- bg hs]at hm;refine⟨av k,az s,aC hs,?_⟩
   conv=>whnf
   refine ae (λh2=>?_) (λh2=>?_) <;> (rw[h2];conv=>whnf)
   . cases h3:(s.set.name==z.apex)with
     |false =>
      have hm:=hm.trans (if_pos (by unfold dj;rw[show(s.set.type==2)=true from h2,h3];rfl))
      conv=>whnf
      exact⟨k+1,hlt,by(show z.sets.length-(k+1)<z.sets.length-k;omega),aj.keep ⟨ab,ab,ab,ab,⟨ao (by omega),rfl⟩,trivial⟩ ⟨ab,ab,⟨by rw[hm];rfl,rfl⟩,trivial⟩⟩
     |true =>
      have hm:=hm.trans (if_neg (by unfold dj;rw[h3,Bool.and_comm];simp))
      conv=>whnf
      exact⟨k+1,hlt,by(show z.sets.length-(k+1)<z.sets.length-k;omega),aj.keep ⟨ab,ab,ab,ab,⟨ao (by omega),rfl⟩,trivial⟩ ⟨ab,ab,⟨by rw[hm];rfl,rfl⟩,trivial⟩⟩
   . have hm:=hm.trans (if_neg (by unfold dj;rw[show(s.set.type==2)=false from h2];simp));exact⟨k+1,hlt,by(show z.sets.length-(k+1)<z.sets.length-k;omega),aj.keep ⟨ab,ab,ab,ab,⟨ao (by omega),rfl⟩,trivial⟩ ⟨ab,ab,⟨by rw[hm];rfl,rfl⟩,trivial⟩⟩
 . obtain rfl:k=z.sets.length:=by simp at h1;omega
   rw[List.take_length];exact af rfl rfl
set_option maxHeartbeats 1000000 in
theorem Ji(z:aF)(s:Bs)(hs:au s=true)(hu:aH s z.apex=true):NQ.Fn cx 107 [.str s,.ptr (aW z),tF z] (.d (.bool (xY z s))) []:=by
 have hfind:∀b,eS (.str b) ((ie z.apex z.sets []).map cK)=some (if dN z.apex z.sets b=true then some (.bool true)else none):=λb=>by
  rw[KO,rG];rfl
 refine aA aO mixed Tryz.func107 (by kernel_rfl) rfl (ah rfl) ?_;conv=>whnf
 refine⟨Nat×Bs,λx=>⟨[(0,.d (.str x.2)),(1,.d (.ptr (aW z))),(2,.d (tF z))],[]⟩,λx=>au x.2=true/\aH x.2 z.apex=true/\(bj x.2).length<x.1/\BE z x.1 x.2=xY z s,λx=>x.1,
  ⟨((bj s).length+1,s),⟨hs,hu,Nat.lt_succ_self _,rfl⟩,aj.keep ⟨ab,ab,ab,trivial⟩ trivial⟩,λ⟨f,b⟩ ⟨hb,hub,hf,hinv⟩=>?_⟩
 dsimp only at hb hub hf hinv ⊢;obtain⟨f,rfl⟩:∃g,f=g+1:=⟨f-1,by omega⟩
 rw[CF]at hinv
 conv=>whnf
 cases h1:(b==z.apex)with
 |true =>
  have he:b=z.apex:=by simpa using h1
  rw[if_pos he]at hinv
  conv=>whnf
  rw[h1]
  conv=>whnf
  rw[<- hinv];exact af rfl rfl
 |false =>
  have he:b≠z.apex:=by simpa using h1
  rw[if_neg he]at hinv
  conv=>whnf
  refine⟨_,hfind b,?_⟩;cases hc:dN z.apex z.sets b with
  |true =>
   rw[hc]at hinv
   conv=>whnf
   rw[h1]
   conv=>whnf
   rw[<- hinv];exact af rfl rfl
  |false =>
   rw[hc]at hinv
   conv=>whnf
   obtain⟨hne,h2,h3⟩:=kT hb hub he;have fP:=om b;rw[show dQ b=(bw b,0) by unfold dQ;rw[if_pos hb,if_neg hne]]at fP
   (refine⟨_,_,fP,?_⟩;conv=>whnf)
   exact⟨(f,bw b),⟨ga hb,h2,by dsimp only;omega,hinv⟩,by(show f<f+1;omega),aj.keep ⟨ab,ab,ab,trivial⟩ trivial⟩
theorem rN{f:Signed->Bool}{l:List Signed}{k:Nat}{s:Signed}(h:l[k]? =some s):eQ f (l.take (k+1))=eQ f (l.take k)++(if f s=true then[[.agg (mV s.set)]]else[]):=by
 unfold eQ;rw[bg h,List.filter_append,List.map_append];by_cases hb:f s=true
 . rw[if_pos hb,List.filter_cons_of_pos hb];rfl
 . rw[if_neg hb,List.filter_cons_of_neg hb];rfl
theorem Mn{f:Signed->Bool}{l:List Signed}{k:Nat}{s:Signed}(h:l[k]? =some s)(hf:f s=true):(eQ f l)[(eQ f (l.take k)).length]? =some [.agg (mV s.set)]:=by
 have e:eQ f l=eQ f (l.take (k+1))++eQ f (l.drop (k+1)):=by
  unfold eQ;rw[<- List.map_append, <- List.filter_append,List.take_append_drop]
 rw[e,rN h,if_pos hf];simp
set_option maxHeartbeats 1000000 in
theorem Mp(z:aF)(hv:aY z=true)(hz:z.sets.length<=100000) :
 Lo cx 108 [.ptr (aW z),.ptr [Jh z]] (eQ (eI z) z.sets):=by
 have hb:∀s∈z.sets,NQ.Fn cx 107 [.str s.set.name,.ptr (aW z),tF z] (.d (.bool (xY z s.set.name))) []:=λs hs=>by
  have V:=dq.1 hv;exact Ji z s.set.name (V.ord.name s hs) (by have:=V.ord.under s hs;unfold bz at this;rw[if_pos ⟨V.ord.name s hs,V.ord.apex⟩]at this;exact this)
 refine rQ (fun|3=>[77777]|_=>[]) aO mixed Tryz.func108 (by kernel_rfl) rfl rfl (ah rfl) ?_
 conv=>whnf
 refine⟨rfl,?_⟩
 conv=>whnf
 refine⟨Nat,λk=>(((eQ (eI z) (z.sets.take k)).length,true),⟨[(1,.d (.ptr (aW z))),(2,.d (.ptr [Jh z])),(7,.d (.slice 5 (z.sets.map az))),(8,.d (.int .i64 ((z.sets.map az).length:Int))),(9,.d (.int .i64 k))],[]⟩),
  λk=>k<=z.sets.length,λk=>z.sets.length-k,⟨0,Nat.zero_le _,by simp[eQ],aj.keep ⟨ab,ab,ab,ab,ab,trivial⟩ trivial⟩,λk hk=>?_⟩
 conv=>whnf
 refine⟨rfl,?_⟩
 conv=>whnf
 refine ae (λh1=>?_) (λh1=>?_) <;> (rw[h1];conv=>whnf)
 . have hlt:k<z.sets.length:=by simpa using h1
   obtain⟨s,hs⟩:∃s,z.sets[k]? =some s:=⟨_,ag hlt⟩
   have again:eI z s=false->((eQ (eI z) (List.take (k+1) z.sets)).length,true)=((eQ (eI z) (List.take k z.sets)).length,true):=λe=>by
    rw[rN hs,if_neg (by rw[e];simp)];simp
   have hcall:=hb s (aq hs);refine⟨rfl,?_⟩
   conv=>whnf
   refine⟨av k,az s,aC hs,?_⟩
   conv=>whnf
   repeat' (first|(refine⟨rfl,?_⟩;conv=>whnf)|fail)
   cases h2:(s.set.type==1)with
   |false =>
    conv=>whnf
    have e:eI z s=false:=by unfold eI;rw[h2];rfl
    repeat' (first|(refine⟨rfl,?_⟩;conv=>whnf)|fail)
    exact⟨k+1,by show k+1<=_;omega,by show z.sets.length-(k+1)<z.sets.length-k;omega,again e,aj.keep ⟨ab,ab,ab,ab,⟨ao (by omega),rfl⟩,trivial⟩ trivial⟩
   |true =>
    conv=>whnf
    repeat' (first|(refine⟨rfl,?_⟩;conv=>whnf)|fail)
    (refine⟨_,_,hcall,?_⟩;conv=>whnf)
    cases h3:xY z s.set.name with
    |false =>
     have e:eI z s=false:=by unfold eI;rw[h2,h3];rfl
     conv=>whnf
     repeat' (first|(refine⟨rfl,?_⟩;conv=>whnf)|fail)
     exact⟨k+1,by show k+1<=_;omega,by show z.sets.length-(k+1)<z.sets.length-k;omega,again e,aj.keep ⟨ab,ab,ab,ab,⟨ao (by omega),rfl⟩,trivial⟩ trivial⟩
    |true =>
     have e:eI z s=true:=by unfold eI;rw[h2,h3];rfl
     conv=>whnf
     repeat' (first|(refine⟨rfl,?_⟩;conv=>whnf)|fail)
     refine⟨_,_,⟨Mn hs e,rfl⟩,rfl,λb=>?_⟩
     conv=>whnf
     cases b with
     |true =>
      repeat' (first|(refine⟨rfl,?_⟩;conv=>whnf)|fail)
      refine⟨k+1,by show k+1<=_;omega,by show z.sets.length-(k+1)<z.sets.length-k;omega,?_,aj.keep ⟨ab,ab,ab,ab,⟨ao (by omega),rfl⟩,trivial⟩ trivial⟩;show((eQ (eI z) (List.take (k+1) z.sets)).length,true)=((eQ (eI z) (List.take k z.sets)).length+1,true)
      rw[rN hs,if_pos e];simp
     |false =>
      repeat' (first|(refine⟨rfl,?_⟩;conv=>whnf)|fail)
      exact⟨trivial,λh=>by cases h⟩
 . refine⟨trivial,λ_=>?_⟩;obtain rfl:k=z.sets.length:=by simp at h1;omega
   simp
end Go.Proofs.YtjapjahfllomkaaGreatDoor
namespace NP
open NQ Go
theorem Jv{z:aF}{n:Bs}(h:n≠z.apex):dN z.apex z.sets n=cP z.sets ⟨n,2⟩:=by
 unfold dN cP
 congr 1
 funext s
 unfold dj;rw[Bool.eq_iff_iff,lK];simp only[Signed.place,aV.place,aB,beq_iff_eq,Bool.not_eq_true',beq_eq_false_iff_ne,Prod.mk.injEq];constructor
 . rintro⟨⟨h1,_⟩,h3⟩;exact⟨h3,h1⟩
 . rintro⟨h1,h2⟩;exact⟨⟨h2,λe=>h (h1.symm.trans e)⟩,h1⟩
theorem ND(z:aF):∀(f:Nat) (n:Bs),BE z f n=(lQ z f n).isSome
 |0,_=>rfl
 |f+1,n=>by
  rw[CF];show _=(if n=z.apex then none else if cP z.sets ⟨n,2⟩=true then some n else lQ z f (bw n)).isSome
  by_cases h:n=z.apex
  . rw[if_pos h,if_pos h];rfl
  . rw[if_neg h,if_neg h,Jv h];split
    . rfl
    . exact ND z f _
theorem Rr{z:aF}(hv:aY z=true){n:Bs}(hn:au n=true)(hu:aH n z.apex=true):xY z n= !(bU z n==[]):=by
 have ha:=(bC hv).apex;have hu' :(bz n z.apex).1=true:=by unfold bz;rw[if_pos ⟨hn,ha⟩];exact hu
 have h:=Ih hv hn hu;unfold xY;rw[ND];show(rI z n).isSome=_
 unfold fY at h;rw[if_neg (by simp[hv,hn]),if_neg (by simp[hu'])]at h;cases hc:rI z n with
 |none=>rw[hc]at h;simp only[Prod.mk.injEq]at h;exact h.2.1
 |some c=>rw[hc]at h;simp only[Prod.mk.injEq]at h;exact h.2.1
theorem RJ{z:aF}(hv:aY z=true){s:Signed}(hs:s∈z.sets):eI z s=iZ z s:=by
 have V:=dq.1 hv;have hn:=V.ord.name s hs;have hu:=V.ord.under s hs;unfold bz at hu;rw[if_pos ⟨hn,V.ord.apex⟩]at hu;unfold eI iZ;rw[Rr hv hn hu]
def pd(l:List Int):List (List D×D):=l.map λn=>([.tuple [.int .i64 n]],.bool true)
def AM(l:List Int)(n:Int):List Int:=if l.contains n=true then l else l++[n]
theorem Cb(n:Int):∀l:List Int,eS (.int .i64 n) (pd l)=some (if l.contains n=true then some (.bool true)else none)
 |[]=>rfl
 |x::l=>by
  show(match eK (.int .i64 n) [.tuple [.int .i64 x]]with|some true=>_|some false=>eS _ (pd l)|none=>none)=_
  have:eK (.int .i64 n) [.tuple [.int .i64 x]]=some (n==x):=rfl;rw[this,List.contains_cons];cases h:(n==x)with
  |true=>simp
  |false=>simp only[dK];exact Cb n l
theorem EH{n:Int}:∀{l:List Int},qZ (.int .i64 n) (.bool true) (pd l)=some (pd (AM l n))
 |[]=>rfl
 |x::l=>by
  unfold AM;show(match eK (.int .i64 n) [.tuple [.int .i64 x]]with|some true=>_|some false=>(qZ _ _ (pd l)).map _|none=>none)=_
  have:eK (.int .i64 n) [.tuple [.int .i64 x]]=some (n==x):=rfl;rw[this,List.contains_cons];cases h:(n==x)with
  |true =>
   have hx:x=n:=(eq_of_beq h).symm;subst hx;simp[pd]
  |false =>
   simp only[dK];rw[EH (l:=l)];unfold AM;split <;> rfl
theorem Oe(l:List Int)(n x:Int):(AM l n).contains x=(l.contains x||(x==n)):=by
 rw[Bool.eq_iff_iff,Bool.or_eq_true,df,df,beq_iff_eq];unfold AM;split
 . rename_i h;exact⟨.inl,λhx=>hx.elim id λe=>e ▸ df.1 h⟩
 . simp
def jX(f:dD->Bool)(l:List dD)(k:Nat):List Int:=((List.range k).filter λi=>(l[i]?.map f).getD false).map λ(i:Nat)=>(i:Int)
theorem Mw{f:dD->Bool}{l:List dD}{k:Nat}{h:dD}(hk:l[k]? =some h):jX f l (k+1)=jX f l k++(if f h=true then[(k:Int)]else[]):=by
 unfold jX;rw[List.range_succ,List.filter_append,List.map_append]
 congr 1
 by_cases hf:f h=true
 . rw[if_pos hf,List.filter_cons_of_pos (by rw[hk];exact hf)];rfl
 . rw[if_neg hf,List.filter_cons_of_neg (by rw[hk];exact hf)];rfl
theorem EE(f:dD->Bool)(l:List dD)(k:Nat):(jX f l k).length<=k:=by
 unfold jX;rw[ak];have:=List.length_filter_le (λi=>(l[i]?.map f).getD false) (List.range k);rw[List.length_range]at this;exact this
def onB(w:ay)(a:Bs)(h:dD):Bool:=((bB w.zones a).1.any λs=>(cT w s).contains h.addr)&&bc w a h.addr
def im(w:ay)(a:Bs):List Int×Int:=if (aK w&&au a)=true then(match aR w.zones a with|some _=>(jX (onB w a) w.hosts w.hosts.length,0)|none=>([],4))else([],1)
theorem xT{w:ay}(hF:cw w)(s:Bs):(cT w s).length<=100000:=by
 unfold cT iE;rw[ak];split
 . split
   . rename_i x hx;have:=List.mem_of_getLast? hx;exact((nZ hF ⟨s,1⟩).small x (List.mem_filter.1 this).1).1
   . exact Nat.zero_le _
 . exact Nat.zero_le _
theorem Hf{w:ay}(hF:cw w)(hv:aK w=true)(a:Bs):(bB w.zones a).1.length<=200000:=by
 have hg:mC w.zones:=λp hp=>⟨hF.few p hp,(bE hv p hp).1⟩
 have ht:∀b,(fK w.zones b a).length<=200000:=λb=>by
  unfold fK;cases hc:aR w.zones b with
  |none=>exact Nat.zero_le _
  |some x =>
   have h1:=(cF hc).1;have h2:=dv (hg _ h1).1;have h3:=Go.Proofs.YtjapjahfllomkaaGreatDoor.oS (z:=x.2.zone) a (λs hs=>by have:=(h2.2 s hs).1;omega) x.2.zone.sets.length;rw[List.take_length]at h3;have:(bS x.2.zone a).length<=100*x.2.zone.sets.length:=h3;dsimp only;omega
 unfold bB;split
 . exact ht _
 . split
   . exact ht _
   . exact Nat.zero_le _
end NP
namespace Go.Proofs.YtjapjahfllomkaaGreatDoor
open NQ Go NP Go.RowKit
def Ut:Nat->List Nat
 |7=>[44444]
 |8=>[88888]
 |12=>[88888]
 |15=>[88888]
 |18=>[18]
 |_=>[]
set_option maxHeartbeats 2000000 in
theorem Hg(w:ay)(a:Bs)(hF:cw w)(hv:aK w=true)(ha:au a=true):NQ.Fn cx 15 [.agg (ba w),.str a] (.tuple [.d (.slice 1 ((im w a).1.map bd)),.d (.int .i64 (im w a).2)]) []:=by
 show NQ.Fn cxF _ _ _ _
 have hW:im w a=(match aR w.zones a with|some _=>(jX (onB w a) w.hosts w.hosts.length,0)|none=>([],4)):=by unfold im;rw[if_pos (by rw[hv,ha];rfl)]
 unfold onB at hW;have hfind:∀b,eS (.str b) ((bV (fb w.zones)).map cK)=some ((aR w.zones b).map λx=>D.agg (aW x.2.zone)):=λb=>by
  rw[pO,ku,xZ hv];cases aR w.zones b <;> rfl
 have fV:=rj w hF;rw[hv]at fV;have fC:=vG w hF hv;have fN:=jo a;rw[ha]at fN;refine vk Ut tyF qe Tryz.func15 (by kernel_rfl) rfl (ah rfl) ?_
 conv=>whnf
 (refine⟨_,_,fV,?_⟩;conv=>whnf)
 (refine⟨_,_,fN,?_⟩;conv=>whnf)
 (refine⟨_,_,fC,?_⟩;conv=>whnf)
 refine⟨_,hfind a,?_⟩;cases hc:aR w.zones a with
 |none =>
  rw[hc]at hW;rw[hW]
  conv=>whnf
  exact .inl ⟨rfl,rfl⟩
 |some x =>
  rw[hc]at hW;dsimp only at hW;rw[hW];clear hW
  conv=>whnf
  refine⟨⟨[(1,.d (.str a)),(2,.ptr 2 0),(6,.ptr 100006 0)],[(2,.box ((ba w).map .d)),(100006,.box (cW w 18)),(18,.smap [])]⟩,(gH.ren [6] (by kernel_rfl)).trans (aj.zero (aj.keep ⟨⟨(by kernel_rfl),(by kernel_rfl)⟩,⟨(by kernel_rfl),(by kernel_rfl)⟩,⟨(by kernel_rfl),(by kernel_rfl)⟩,trivial⟩ ⟨⟨(by kernel_rfl),(by kernel_rfl)⟩,⟨(by kernel_rfl),(by kernel_rfl)⟩,⟨(by kernel_rfl),(by kernel_rfl)⟩,trivial⟩)),?_⟩
  conv=>whnf
  refine⟨[2,38],_,_,FH w [] a hF hv ha,⟨⟨by kernel_rfl,by kernel_rfl⟩,by kernel_rfl,by kernel_rfl,by kernel_rfl⟩,?_⟩;have hSl:(bB w.zones a).1.length<=200000:=Hf hF hv a;generalize (bB w.zones a).1=S at *
  conv=>whnf
  refine⟨Nat×List (Bs×List Int)×List Int,λx=>⟨[(1,.d (.str a)),(2,.ptr 2 0),(6,.ptr 100006 0),(9,.omap 38),(45,.d (.slice 1 (S.map aP))),(46,.d (.int .i64 ((S.map aP).length:Int))),(47,.d (.int .i64 x.1))],[(2,.box ((ba w).map .d)),(100006,.box (cW w 18)),(18,.smap (cG x.2.1)),(38,.kmap (pd x.2.2))]⟩,
   λx=>x.1<=S.length/\kY w x.2.1/\ ∀n,x.2.2.contains n=(S.take x.1).any λs=>(cT w s).contains n,λx=>S.length-x.1,
   ⟨(0,[],[]),⟨Nat.zero_le _,(λp hp=>by cases hp),λn=>rfl⟩,aj.keep ⟨ab,ab,ab,ab,ab,ab,ab,trivial⟩ ⟨ab,ab,ab,ab,trivial⟩⟩,λ⟨k,m,l⟩ ⟨hk,hm,hl⟩=>?_⟩
  dsimp only at hk hm hl ⊢
  conv=>whnf
  refine ae (λh1=>?_) (λh1=>?_) <;> (rw[h1];conv=>whnf)
  . have hlt:k<S.length:=by simpa using h1
    obtain⟨s,hs⟩:∃s,S[k]? =some s:=⟨_,ag hlt⟩
    have hAl:=xT hF s;refine⟨av k,aP s,aC hs,?_⟩
    conv=>whnf
    refine⟨[2,38],_,_,AN w m s hF hv hm,⟨⟨by kernel_rfl,by kernel_rfl⟩,by kernel_rfl,by kernel_rfl,by kernel_rfl⟩,?_⟩;have hm2:=uI hm s;have hl2:∀l2:List Int,(∀n,l2.contains n=(l.contains n||(cT w s).contains n))-> ∀n,l2.contains n=(S.take (k+1)).any λs=>(cT w s).contains n:=λl2 h n=>by
     rw[h n,hl n,bg hs,List.any_append];simp
    generalize kq w m s=m2 at *
    generalize cT w s=AD at *
    conv=>whnf
    refine⟨Nat×List Int,λy=>⟨[(1,.d (.str a)),(2,.ptr 2 0),(6,.ptr 100006 0),(9,.omap 38),(45,.d (.slice 1 (S.map aP))),(46,.d (.int .i64 ((S.map aP).length:Int))),(47,.d (.int .i64 k)),(53,.d (.slice 1 (AD.map bd))),(54,.d (.int .i64 ((AD.map bd).length:Int))),(55,.d (.int .i64 y.1))],[(2,.box ((ba w).map .d)),(100006,.box (cW w 18)),(18,.smap (cG m2)),(38,.kmap (pd y.2))]⟩,
     λy=>y.1<=AD.length/\ ∀n,y.2.contains n=(l.contains n||(AD.take y.1).contains n),λy=>AD.length-y.1,
     ⟨(0,l),⟨Nat.zero_le _,λn=>by simp⟩,aj.keep ⟨ab,ab,ab,ab,ab,ab,ab,ab,ab,ab,trivial⟩ ⟨ab,ab,ab,ab,trivial⟩⟩,λ⟨j,l2⟩ ⟨hj,hl3⟩=>?_⟩
    dsimp only at hj hl3 ⊢
    conv=>whnf
    refine ae (λh2=>?_) (λh2=>?_) <;> (rw[h2];conv=>whnf)
    . have hjl:j<AD.length:=by simpa using h2
      obtain⟨n,hn⟩:∃n,AD[j]? =some n:=⟨_,ag hjl⟩
      refine⟨av j,bd n,aC hn,?_⟩
      conv=>whnf
      refine⟨_,EH,?_⟩
      conv=>whnf
      refine⟨(j+1,AM l2 n),⟨hjl,λx=>?_⟩,by(show AD.length-(j+1)<AD.length-j;omega),aj.keep ⟨ab,ab,ab,ab,ab,ab,ab,ab,ab,⟨ao (by omega),rfl⟩,trivial⟩ ⟨ab,ab,ab,ab,trivial⟩⟩;rw[Oe,hl3 x,bg hn,Bool.or_assoc]
      congr 1
      rw[Bool.eq_iff_iff,Bool.or_eq_true,df,df,List.mem_append,beq_iff_eq,List.mem_singleton]
    . obtain rfl:j=AD.length:=by simp at h2;omega
      rw[List.take_length]at hl3;exact⟨(k+1,m2,l2),⟨hlt,hm2,hl2 l2 hl3⟩,by(show S.length-(k+1)<S.length-k;omega),aj.keep ⟨ab,ab,ab,ab,ab,ab,⟨ao (by omega),rfl⟩,trivial⟩ ⟨ab,ab,ab,ab,trivial⟩⟩
  . obtain rfl:k=S.length:=by simp at h1;omega
    rw[List.take_length]at hl;have hhosts:=hF.hosts;refine⟨Nat,λi=>⟨[(1,.d (.str a)),(6,.ptr 100006 0),(9,.omap 38),(16,.own 16),(64,.d (.slice 3 (w.hosts.map dw))),(65,.d (.int .i64 ((w.hosts.map dw).length:Int))),(66,.d (.int .i64 i))],[(100006,.box ((Jq w m).map .d)),(16,.row 3 1 ((jX (λh=>(S.any λs=>(cT w s).contains h.addr)&&bc w a h.addr) w.hosts i).map bd)),(38,.kmap (pd l))]⟩,λi=>i<=w.hosts.length,λi=>w.hosts.length-i,
     ⟨0,Nat.zero_le _,(aj.nF 16 16 1 3 1 rfl rfl (by decide)).trans (aj.keep ⟨ab,ab,ab,ab,ab,ab,ab,trivial⟩ ⟨ab,ab,ab,trivial⟩)⟩,λi hi=>?_⟩
    dsimp only at hi ⊢
    conv=>whnf
    refine ae (λh2=>?_) (λh2=>?_) <;> (rw[h2];conv=>whnf)
    . have hil:i<w.hosts.length:=by simpa using h2
      obtain⟨h,hh⟩:∃h,w.hosts[i]? =some h:=⟨_,ag hil⟩
      refine⟨av i,dw h,aC hh,?_⟩
      conv=>whnf
      refine⟨_,Cb h.addr l,?_⟩;rw[hl h.addr];have hsn:=Mw (f:=λh=>(S.any λs=>(cT w s).contains h.addr)&&bc w a h.addr) hh;cases hx:S.any (λs=>(cT w s).contains h.addr)with
      |false =>
       rw[hx,gW,if_neg (by simp),List.append_nil]at hsn
       conv=>whnf
       refine⟨i+1,hil,by(show w.hosts.length-(i+1)<w.hosts.length-i;omega),aj.keep ⟨ab,ab,ab,ab,ab,ab,⟨ao (by omega),rfl⟩,trivial⟩ ⟨ab,⟨?_,rfl⟩,ab,trivial⟩⟩;rw[hsn];rfl
      |true =>
       rw[hx,dC]at hsn;have hix:=EE (λh=>(S.any λs=>(cT w s).contains h.addr)&&bc w a h.addr) w.hosts i
       conv=>whnf
       (refine⟨_,_,Ct w m a h.addr,?_⟩;conv=>whnf)
       cases hy:bc w a h.addr with
       |false =>
        rw[hy,if_neg (by simp),List.append_nil]at hsn
        conv=>whnf
        refine⟨i+1,hil,by(show w.hosts.length-(i+1)<w.hosts.length-i;omega),aj.keep ⟨ab,ab,ab,ab,ab,ab,⟨ao (by omega),rfl⟩,trivial⟩ ⟨ab,⟨?_,rfl⟩,ab,trivial⟩⟩;rw[hsn];rfl
       |true =>
        rw[hy,if_pos rfl]at hsn
        conv=>whnf
        generalize jX (λh=>(S.any λs=>(cT w s).contains h.addr)&&bc w a h.addr) w.hosts i=I at *
        refine⟨by(show(I.map bd).length+1<=_);rw[ak];omega,by(show((I.map bd).length+1)*8<=_);rw[ak];omega,?_⟩
        conv=>whnf
        refine⟨i+1,hil,by(show w.hosts.length-(i+1)<w.hosts.length-i;omega),aj.keep ⟨ab,ab,ab,ab,ab,ab,⟨ao (by omega),rfl⟩,trivial⟩ ⟨ab,⟨?_,rfl⟩,ab,trivial⟩⟩;rw[hsn,List.map_append];rfl
    . obtain rfl:i=w.hosts.length:=by simp at h2;omega
      exact .inl ⟨rfl,rfl⟩
theorem po(w:ay)(a:Bs)(hF:cw w):NQ.Fn cx 15 [.agg (ba w),.str a] (.tuple [.d (.slice 1 ((im w a).1.map bd)),.d (.int .i64 (im w a).2)]) []:=by
 have fV:=rj w hF;have fN:=jo a;cases hv:aK w with
 |false =>
  rw[hv]at fV;have e:im w a=([],1):=by unfold im;rw[hv];rfl
  rw[e];refine aA aO mixed Tryz.func15 (by kernel_rfl) rfl (ah rfl) ?_;conv=>whnf
  (refine⟨_,_,fV,?_⟩;conv=>whnf)
  exact af rfl rfl
 |true =>
  cases ha:au a with
  |false =>
   rw[hv]at fV;rw[ha]at fN;have e:im w a=([],1):=by unfold im;rw[hv,ha];rfl
   rw[e];refine aA aO mixed Tryz.func15 (by kernel_rfl) rfl (ah rfl) ?_;conv=>whnf
   (refine⟨_,_,fV,?_⟩;conv=>whnf)
   (refine⟨_,_,fN,?_⟩;conv=>whnf)
   exact af rfl rfl
  |true=>exact Hg w a hF hv ha
end Go.Proofs.YtjapjahfllomkaaGreatDoor
namespace NP
open NQ Go
def dh(l:List Fnd):List (List D×D):=l.map λf=>(cg f,.bool true)
def nu(l:List Fnd)(f:Fnd):List Fnd:=if l.contains f=true then l else l++[f]
theorem tM{l:List Fnd}{f x:Fnd}:x∈nu l f ↔ x∈l\/x=f:=by
 unfold nu;split
 . rename_i h;exact⟨.inl,λhx=>hx.elim id λe=>e ▸ df.1 h⟩
 . simp
theorem Tl(f x:Fnd):cq [.int .i64,.str,.str] ((cg f).map .d) ((cg x).map .d)=some (f==x):=by
 obtain⟨a,b,c⟩:=f;obtain⟨a',b',c'⟩:=x;show some ((a==a')&&((b==b')&&((c==c')&&true)))=_
 congr 1
 rw[Bool.eq_iff_iff];simp
theorem Il{f:Fnd}:∀{l:List Fnd},mO [.int .i64,.str,.str] (cg f) (.bool true) (dh l)=some (dh (nu l f))
 |[]=>rfl
 |x::l=>by
  unfold nu;show(match cq [.int .i64,.str,.str] ((cg f).map .d) ((cg x).map .d)with|some true=>_|some false=>(mO _ _ _ (dh l)).map _|none=>none)=_
  rw[Tl,List.contains_cons];cases h:(f==x)with
  |true =>
   have hx:x=f:=(eq_of_beq h).symm;subst hx;simp[dh]
  |false =>
   simp only[dK];rw[Il (l:=l)];unfold nu;split <;> rfl
end NP
namespace Go.Proofs.YtjapjahfllomkaaGreatDoor
open NQ Go NP Go.RowKit
def hN(l:List Fnd):List (Nat×Blk):=[(100005,.box [.omap 20]),(20,.kmap (dh l))]
theorem LZ(a b:List Bs)(ha:a.length<=200000):NQ.Fn cx 47 [.slice 1 (a.map aP),.slice 1 (b.map aP)] (.d (.bool (a==b))) []:=by
 refine aA aO mixed Tryz.func47 (by kernel_rfl) rfl (ah rfl) ?_;conv=>whnf
 by_cases hl:a.length=b.length
 . rw[show(((a.map aP).length:Int) != ((b.map aP).length:Int))=false by simp[hl]]
   conv=>whnf
   refine⟨Nat,λk=>⟨[(0,.d (.slice 1 (a.map aP))),(1,.d (.slice 1 (b.map aP))),(12,.d (.int .i64 ((a.map aP).length:Int))),(13,.d (.int .i64 k))],[]⟩,λk=>k<=a.length/\a.take k=b.take k,λk=>a.length-k,
    ⟨0,⟨Nat.zero_le _,rfl⟩,aj.keep ⟨ab,ab,ab,ab,trivial⟩ trivial⟩,λk ⟨hk,he⟩=>?_⟩
   dsimp only at hk he ⊢
   conv=>whnf
   refine ae (λh1=>?_) (λh1=>?_) <;> (rw[h1];conv=>whnf)
   . have hlt:k<a.length:=by simpa using h1
     obtain⟨x,hx⟩:∃x,a[k]? =some x:=⟨_,ag hlt⟩
     obtain⟨y,hy⟩:∃y,b[k]? =some y:=⟨_,ag (by omega)⟩
     (refine⟨(by kernel_rfl:bf _ _=true),?_⟩;conv=>whnf)
     refine⟨av k,aP x,aC hx,?_⟩
     conv=>whnf
     refine⟨av k,aP y,aC hy,?_⟩
     conv=>whnf
     by_cases hxy:x=y
     . rw[show(x==y)=true by simp[hxy]]
       conv=>whnf
       refine⟨k+1,⟨hlt,?_⟩,by(show a.length-(k+1)<a.length-k;omega),aj.keep ⟨ab,ab,ab,⟨ao (by omega),rfl⟩,trivial⟩ trivial⟩;rw[bg hx,bg hy,he,hxy]
     . rw[show(x==y)=false by simp[hxy]]
       conv=>whnf
       refine af rfl ?_;have:(a==b)=false:=by
        rw[beq_eq_false_iff_ne];intro e;rw[e,hy]at hx;exact hxy (by cases hx;rfl)
       rw[this];rfl
   . obtain rfl:k=a.length:=by simp at h1;omega
     refine af rfl ?_;have:(a==b)=true:=by
      rw[List.take_length,hl,List.take_length]at he;rw[he];simp
     rw[this];rfl
 . rw[show(((a.map aP).length:Int) != ((b.map aP).length:Int))=true by simp;omega]
   conv=>whnf
   refine af rfl ?_;have:(a==b)=false:=by
    rw[beq_eq_false_iff_ne];intro e;exact hl (by rw[e])
   rw[this];rfl
theorem LY(a b:List Int)(ha:a.length<=200000):NQ.Fn cx 54 [.slice 1 (a.map bd),.slice 1 (b.map bd)] (.d (.bool (a==b))) []:=by
 refine aA aO mixed Tryz.func54 (by kernel_rfl) rfl (ah rfl) ?_;conv=>whnf
 by_cases hl:a.length=b.length
 . rw[show(((a.map bd).length:Int) != ((b.map bd).length:Int))=false by simp[hl]]
   conv=>whnf
   refine⟨Nat,λk=>⟨[(0,.d (.slice 1 (a.map bd))),(1,.d (.slice 1 (b.map bd))),(12,.d (.int .i64 ((a.map bd).length:Int))),(13,.d (.int .i64 k))],[]⟩,λk=>k<=a.length/\a.take k=b.take k,λk=>a.length-k,
    ⟨0,⟨Nat.zero_le _,rfl⟩,aj.keep ⟨ab,ab,ab,ab,trivial⟩ trivial⟩,λk ⟨hk,he⟩=>?_⟩
   dsimp only at hk he ⊢
   conv=>whnf
   refine ae (λh1=>?_) (λh1=>?_) <;> (rw[h1];conv=>whnf)
   . have hlt:k<a.length:=by simpa using h1
     obtain⟨x,hx⟩:∃x,a[k]? =some x:=⟨_,ag hlt⟩
     obtain⟨y,hy⟩:∃y,b[k]? =some y:=⟨_,ag (by omega)⟩
     (refine⟨(by kernel_rfl:bf _ _=true),?_⟩;conv=>whnf)
     refine⟨av k,bd x,aC hx,?_⟩
     conv=>whnf
     refine⟨av k,bd y,aC hy,?_⟩
     conv=>whnf
     by_cases hxy:x=y
     . rw[show(x != y)=false by simp[hxy]]
       conv=>whnf
       refine⟨k+1,⟨hlt,?_⟩,by(show a.length-(k+1)<a.length-k;omega),aj.keep ⟨ab,ab,ab,⟨ao (by omega),rfl⟩,trivial⟩ trivial⟩;rw[bg hx,bg hy,he,hxy]
     . rw[show(x != y)=true by simp[hxy]]
       conv=>whnf
       refine af rfl ?_;have:(a==b)=false:=by
        rw[beq_eq_false_iff_ne];intro e;rw[e,hy]at hx;exact hxy (by cases hx;rfl)
       rw[this];rfl
   . obtain rfl:k=a.length:=by simp at h1;omega
     refine af rfl ?_;have:(a==b)=true:=by
      rw[List.take_length,hl,List.take_length]at he;rw[he];simp
     rw[this];rfl
 . rw[show(((a.map bd).length:Int) != ((b.map bd).length:Int))=true by simp;omega]
   conv=>whnf
   refine af rfl ?_;have:(a==b)=false:=by
    rw[beq_eq_false_iff_ne];intro e;exact hl (by rw[e])
   rw[this];rfl
end Go.Proofs.YtjapjahfllomkaaGreatDoor
namespace NP
open NQ Go
def QN(x y:List D):Int:=match x,y with|[.int _ k,.str z,.str n],[.int _ k',.str z',.str n']=>gI ⟨k,z,n⟩ ⟨k',z',n'⟩|_,_=>0
theorem ya(f g:Fnd):QN (cg f) (cg g)=gI f g:=rfl
theorem yb{a b:Fnd}(h1:¬gI a b<0):gI b a<0\/a=b:=by
 rcases Classical.em (gI b a<0)with h2|h2
 . exact .inl h2
 . exact .inr (BS h1 h2)
theorem AU(l:List Fnd):jn gI l:=by
 refine⟨λx _=>sZ x,λx _ y _ z _=>mH,λx _ y _ z _ h1 h2 h3=>?_⟩;rcases yb h1 with h4|rfl
 . rcases yb h2 with h5|rfl
   . exact sZ x (mH h3 (mH h5 h4))
   . exact h1 h3
 . exact h2 h3
theorem Sz{l:List Fnd}(h:l.Nodup):dm gI l=nc l:=by
 have hp:=gP (AU l);have hs:=qs (AU l);have hnd:(dm gI l).Nodup:=hp.nodup_iff.2 h;refine lO.ext ?_ (nf l) λx=>by rw[kI,hp.mem_iff]
 exact(hs.and hnd).imp λ{a b} ⟨h1,h2⟩=>(yb h1).elim id λe=>absurd e.symm h2
end NP
namespace Go.Proofs.YtjapjahfllomkaaGreatDoor
open NQ Go NP Go.RowKit
theorem Hl(l:List Fnd)(hv:∀f∈l,wm f)(hl:l.length<=100000)(fl:Bool):FnR cx 110 false 47 3 (l.map cg) fl [.fn 58 [] []] ((dm gI l).map cg):=by
 rw[<- vW cg gI QN l λx _ y _=>ya x y];exact yN (cx:=cx) (ρ:=Tryz.xF) Tryz.Sw (k:=3) Tryz.isAgg47 Tryz.sizeOf47 ⟨_,Tryz.func110,by kernel_rfl,rfl⟩
  (λx hx y hy=>by
   obtain⟨a,ha,rfl⟩:=List.mem_map.1 hx;obtain⟨b,hb,rfl⟩:=List.mem_map.1 hy;rw[ya];exact Gs a b (hv a ha) (hv b hb)) (enters_of Tryz.func58 (by kernel_rfl) rfl) ((AU l).map λx _ y _=>ya x y) (by rw[ak];omega)
end Go.Proofs.YtjapjahfllomkaaGreatDoor
namespace NQ
open Go
theorem EV{fx:List Nat}{h:List (Nat×Blk)}(e:fx.all (λs=>(find h s).isSome)=true):∀s∈fx,live h s:=λs hs=>ax.1 e s hs
theorem QM{fx:List Nat}{h:List (Nat×Blk)}(e:fx.all (λs=>Nat.ble 100000 s&&(match find h s with|some b=>Af b|none=>false))=true):∀s∈fx,100000<=s/\ ∃b,find h s=some b/\Af b=true:=λs hs=>by
 have:=ax.1 e s hs;rw[aB]at this;refine⟨ah this.1,?_⟩;have h2:=this.2;split at h2
 . rename_i b e;exact⟨b,e,h2⟩
 . cases h2
def MC(m:List (List D×D)):Src:=⟨List (List D×D)×List (List D×D),([],m),λp x p' => ∃i kk v,p.2[i]? =some (kk,v)/\x=[vv kk]/\p' =(p.1++[(kk,v)],p.2.eraseIdx i),λp=>p.2=[]⟩
theorem tq{α:Type}:∀{l:List α} {i:Nat} {x:α},l[i]? =some x->(x::l.eraseIdx i).Perm l
 |[],i,x,h=>by simp at h
 |y::t,0,x,h=>by cases h;exact List.Perm.refl _
 |y::t,i+1,x,h=>by
  have:=tq (l:=t) (i:=i) (x:=x) (by simpa using h);rw[List.eraseIdx_cons_succ];exact(List.Perm.swap y x _).trans (this.cons y)
theorem Nw{α:Type}{T l m:List α}{i:Nat}{x:α}(h:(T++l).Perm m)(hx:l[i]? =some x):((T++[x])++l.eraseIdx i).Perm m:=by
 rw[List.append_assoc];exact((tq hx).append_left T).trans h
end NQ
namespace NP
open NQ Go
theorem Pd{l:List Fnd}{i:Nat}{kk:List D}{v:D}(h:(dh l)[i]? =some (kk,v)):∃f,l[i]? =some f/\kk=cg f/\v= .bool true:=by
 unfold dh at h;rw[aQ]at h;cases hf:l[i]? with
 |none=>rw[hf]at h;cases h
 |some f=>rw[hf]at h;cases h;exact⟨f,rfl,rfl,rfl⟩
theorem tz:∀(l:List Fnd) (i:Nat),(dh l).eraseIdx i=dh (l.eraseIdx i)
 |[],_=>rfl
 |_::_,0=>rfl
 |f::t,i+1=>by
  show(cg f,D.bool true)::(dh t).eraseIdx i=(cg f,D.bool true)::dh (t.eraseIdx i)
  rw[tz t i]
def unF:List D×D->Fnd
 |([.int _ k,.str z,.str n],_)=>⟨k,z,n⟩
 |_=>⟨0,[],[]⟩
theorem Mi{T:List (List D×D)}{l:List Fnd}(h:T.Perm (dh l)):∃r:List Fnd,r.Perm l/\T=dh r:=by
 refine⟨T.map unF,?_,?_⟩
 . have:=h.map unF;have e:(dh l).map unF=l:=by
    unfold dh;rw[List.map_map];exact(List.map_congr_left λf _=>by cases f;rfl).trans (List.map_id l)
   rwa [e]at this
 . unfold dh;rw[List.map_map];have e:T.map ((λf=>(cg f,D.bool true)) ∘ unF)=T.map id:=List.map_congr_left λp hp=>by
    obtain⟨f,_,rfl⟩:=List.mem_map.1 (h.subset hp);cases f;rfl
   rw[e,List.map_id]
end NP
namespace Go.Proofs.YtjapjahfllomkaaGreatDoor
open NQ Go NP Go.RowKit
noncomputable def cxY:Cx:={cx with chg:=λg=>match Nat.beq g 109,Nat.beq g 180,Nat.beq g 110 with|true,_,_=>7|_,true,_=>7|_,_,true=>2|_,_,_=>cx.chg g}
theorem tyY:bo cxY:=aO
theorem EZ:cxY.P.follows .mixedOrders=true:=mixed
def zQ(l:List Fnd):D:= .fn 111 [] [.ptr [.kmap (dh l)]]
theorem Py(l:List Fnd):NQ.Fn cx 57 [.kmap (dh l)] (.d (zQ l)) []:=by
 refine aA aO mixed Tryz.func57 (by kernel_rfl) rfl (ah rfl) ?_;conv=>whnf
 exact af rfl rfl
theorem Kb(l:List Fnd):Dj cx 111 [.ptr [.kmap (dh l)]] (MC (dh l)):=by
 refine rQ (fun|0=>[88888]|1=>[88888]|2=>[88888]|3=>[77777]|_=>[]) aO mixed Tryz.func111 (by kernel_rfl) rfl rfl (ah rfl) ?_
 conv=>whnf
 refine⟨rfl,?_⟩
 conv=>whnf
 refine⟨List Fnd×List Fnd×Option (List D×D),λx=>(((dh x.1,dh x.2.1),true),⟨[(1,.d (.ptr [.kmap (dh l)])),(5,.ptr 5 0)],[(5,.iter (dh x.2.1) x.2.2)]⟩),λ_=>True,λx=>x.2.1.length,
  ⟨([],l,none),trivial,rfl,aj.keep ⟨ab,ab,trivial⟩ ⟨ab,trivial⟩⟩,λ⟨T,L,cur⟩ _=>?_⟩
 dsimp only
 conv=>whnf
 refine⟨rfl,?_⟩
 conv=>whnf
 refine⟨λhnil=>?_,λi kk y hy=>?_⟩
 . conv=>whnf
   exact⟨trivial,λ_=>hnil⟩
 . obtain⟨f,hf,rfl,rfl⟩:=Pd hy
   conv=>whnf
   refine⟨rfl,?_⟩
   conv=>whnf
   repeat' (first|(refine⟨rfl,?_⟩;conv=>whnf)|fail)
   refine⟨_,(dh (T++[f]),dh (L.eraseIdx i)),⟨i,cg f,.bool true,hy,rfl,by rw[tz];unfold dh;rw[List.map_append];rfl⟩,rfl,λb=>?_⟩
   conv=>whnf
   have hlt:=(ar.1 hf).1;cases b with
   |true =>
    repeat' (first|(refine⟨rfl,?_⟩;conv=>whnf)|fail)
    refine⟨(T++[f],L.eraseIdx i,some (cg f,.bool true)),trivial,by(show(L.eraseIdx i).length<L.length;rw[List.length_eraseIdx,if_pos hlt];omega),rfl,aj.keep ⟨ab,ab,trivial⟩ ⟨⟨?_,rfl⟩,trivial⟩⟩;rw[tz];rfl
   |false =>
    repeat' (first|(refine⟨rfl,?_⟩;conv=>whnf)|fail)
    exact⟨trivial,λh=>by cases h⟩
def uA(l:List Fnd):Type:={r:List Fnd // r.Perm l}
def Dr(l:List Fnd)(r:uA l):List (Nat×Blk):=[(200,.row 47 3 (r.1.map cg))]
theorem Gp(l:List Fnd)(hl:l.length<=100000):FnC cx 180 [.nil 3,.d (zQ l)] (λ_:uA l=> .own 200) (Dr l):=by
 show FnC cxY _ _ _ _
 refine zK (λ_=>[]) tyY EZ Tryz.func180 (by kernel_rfl) rfl (ah rfl) ?_
 conv=>whnf
 refine⟨111,_,MC (dh l),[(2,.ptr 100002 0),(6,.d (zQ l))],Unit,(),λp _=>[(100002,.box [.own 200]),(200,.row 47 3 (p.1.map (·.1)))],[100002],λp _=>(p.1++p.2).Perm (dh l),
  (aj.zero (aj.mU 2 0 200 3 [.nil 3] 47 3 (by kernel_rfl) rfl (by kernel_rfl) (by decide))).trans ((gH.ren [2] (by kernel_rfl)).trans (aj.zero (aj.keep ⟨⟨(by kernel_rfl),(by kernel_rfl)⟩,⟨(by kernel_rfl),(by kernel_rfl)⟩,trivial⟩ ⟨⟨(by kernel_rfl),(by kernel_rfl)⟩,⟨(by kernel_rfl),(by kernel_rfl)⟩,trivial⟩))),
  ⟨rfl,Kb l,?_,rfl,rfl⟩,⟨ah rfl,QM (by kernel_rfl),rfl,by kernel_rfl⟩,List.Perm.refl _,?_,?_⟩
 . rintro k x k' ⟨i,kk,v,_,rfl,_⟩;rfl
 . rintro⟨T,L⟩ x k' _ ⟨i,kk,v,hi,rfl,rfl⟩ hN;dsimp only at hi hN;have hTL:=hN.length_eq;have hmem:(kk,v)∈dh l:=hN.subset (List.mem_append.2 (.inr (aq hi)));obtain⟨f,_,he⟩:=List.mem_map.1 hmem;cases he;have hlen:T.length<=100000:=by
    rw[List.length_append]at hTL;unfold dh at hTL;rw[ak]at hTL;omega
   conv=>whnf
   refine⟨by(show(T.map (·.1)).length+1<=_);rw[ak];omega,by(show((T.map (·.1)).length+1)*40<=_);rw[ak];omega,?_⟩
   conv=>whnf
   refine⟨(),⟨?_,EV (by kernel_rfl)⟩,Nw hN hi⟩;show aj cxY _ ⟨[],[(100002,.box [.own 200]),(200,.row 47 3 ((T++[(cg f,D.bool true)]).map (·.1)))]⟩
   rw[List.map_append];exact aj.keep trivial ⟨⟨(by kernel_rfl),(by kernel_rfl)⟩,⟨(by kernel_rfl),(by kernel_rfl)⟩,trivial⟩
 . rintro⟨T,L⟩ _ hfin hN;have hfin:L=[]:=hfin;subst hfin;rw[List.append_nil]at hN;obtain⟨r,hr,hTr⟩:=Mi hN;have hT:T=dh r:=hTr;subst hT;have e:(dh r).map (·.1)=r.map cg:=by unfold dh;rw[List.map_map];rfl
   dsimp only;rw[e]
   conv=>whnf
   exact⟨⟨r,hr⟩,tX (bs:=Dr l ⟨r,hr⟩) rfl rfl ⟨⟨rfl,rfl⟩,trivial⟩⟩
theorem DV(l:List Fnd)(hl:l.length<=100000):FnC cx 109 [.d (zQ l)] (λ_:uA l=> .own 200) (Dr l):=by
 show FnC cxY _ _ _ _
 refine zK (fun|1=>[88888]|_=>[]) tyY EZ Tryz.func109 (by kernel_rfl) rfl (ah rfl) ?_
 conv=>whnf
 refine⟨uA l,_,_,⟨Gp l hl,λr=>⟨rfl,rfl⟩⟩,λr=>?_⟩
 conv=>whnf
 exact⟨r,tX (bs:=Dr l r) rfl rfl ⟨⟨rfl,rfl⟩,trivial⟩⟩
theorem KS(l:List Fnd)(hnd:l.Nodup)(hv:∀f∈l,wm f)(hl:l.length<=100000):NQ.Fn cx 56 [zQ l,.fn 58 [] []] (.d (.slice 3 ((nc l).map cg))) []:=by
 show NQ.Fn cxY _ _ _ _
 refine cH (fun|1=>[88888]|_=>[]) tyY EZ Tryz.func56 (by kernel_rfl) rfl (ah rfl) ?_
 conv=>whnf
 refine⟨uA l,_,_,⟨DV l hl,λr=>⟨rfl,rfl⟩⟩,λ⟨r,hr⟩=>?_⟩;have hF:∀fl,FnR cxY 110 false 47 3 (r.map cg) fl [.fn 58 [] []] ((nc l).map cg):=λfl=>by
  have:=Hl r (λf hf=>hv f (hr.subset hf)) (by rw[hr.length_eq];exact hl) fl
  rwa [Sz (hr.nodup_iff.2 hnd),nY λx=>hr.mem_iff]at this
 conv=>whnf
 refine⟨_,hF _,?_⟩
 conv=>whnf
 exact af rfl rfl
end Go.Proofs.YtjapjahfllomkaaGreatDoor
namespace NP
open NQ Go
theorem uB{zs:List ai}:∀(f:Nat) (s:Bs),au s=true->(bj s).length<f ->
 match gk zs f s with
  |some h=>(aR zs h).isSome=true/\aH s h=true/\h≠s/\ ∀b,(aR zs b).isSome=true->aH s b=true->b≠s->aH h b=true
  |none=> ∀b,(aR zs b).isSome=true->aH s b=true->b=s
 |0,s,_,h=>by omega
 |f+1,s,hv,hf=>by
  unfold gk;by_cases hs:s=[46]
  . rw[if_pos hs];intro b hb hu;subst hs;exact ng (mA b) hu
  . rw[if_neg hs];obtain⟨_,_,h3⟩:=kT hv (mA s) hs;have hps:bw s≠s:=λe=>by rw[e]at h3;omega
    by_cases hc:(aR zs (bw s)).isSome=true
    . rw[if_pos hc];exact⟨hc,mS hv,hps,λb hb hu hne=>nh hv hu hne.symm⟩
    . rw[if_neg hc];have ih:=uB (zs:=zs) f (bw s) (ga hv) (by omega);have ne:∀b,(aR zs b).isSome=true->b≠bw s:=λb hb e=>hc (e ▸ hb)
      split at ih
      . rename_i h e;refine⟨ih.1,oc (mS hv) ih.2.1,λe2=>?_,λb hb hu hne=>ih.2.2.2 b hb (nh hv hu hne.symm) (ne b hb)⟩;have h4:=ih.2.1;rw[e2]at h4;exact hps (ng h4 (mS hv))
      . intro b hb hu;by_cases e:b=s
        . exact e
        . exact absurd (ih b hb (nh hv hu (Ne.symm e))) (ne b hb)
theorem wU(zs:List ai){s:Bs}(hv:au s=true):match cR zs s with
 |some h=>(aR zs h).isSome=true/\aH s h=true/\h≠s/\ ∀b,(aR zs b).isSome=true->aH s b=true->b≠s->aH h b=true
 |none=> ∀b,(aR zs b).isSome=true->aH s b=true->b=s:=uB _ s hv (Nat.lt_succ_self _)
theorem iP{zs:List ai}{p:ai}(hp:p∈zs):(aR zs p.zone.apex).isSome=true:=by
 cases h:aR zs p.zone.apex with
 |none=>exact absurd rfl (mi.1 h p hp)
 |some x=>rfl
theorem IZ{zs:List ai}(hz:∀p∈zs,au p.zone.apex=true){a:Bs}(ha:au a=true):(fq zs (-1) a a).map (λx=>x.2.zone.apex)=cR zs a:=by
 have ok:∀p:ai,ig (-1) a a p=true ↔ p.zone.apex≠a/\aH a p.zone.apex=true:=λp=>by
  unfold ig;simp
 have hs:=wU zs ha;cases hd:fq zs (-1) a a with
 |none =>
  have hno:=(km _ _ _).1 hd;cases hb:cR zs a with
  |none=>rfl
  |some b =>
   rw[hb]at hs;obtain⟨h1,h2,h3,_⟩:=hs;cases hc:aR zs b with
   |none=>rw[hc]at h1;cases h1
   |some x =>
    obtain⟨c1,c2,_⟩:=cF hc;have:=hno.2 x.2 c1;rw[(ok x.2).2 ⟨by rw[c2];exact h3,by rw[c2];exact h2⟩]at this;cases this
 |some x =>
  obtain⟨m1,m2,m3⟩:=tn hd;obtain⟨k1,k2⟩:=(ok x.2).1 m2;cases hb:cR zs a with
  |none =>
   rw[hb]at hs;exact absurd (hs _ (iP m1) k2) k1
  |some b =>
   rw[hb]at hs;obtain⟨h1,h2,h3,h4⟩:=hs;have hu:=h4 _ (iP m1) k2 k1;cases hc:aR zs b with
   |none=>rw[hc]at h1;cases h1
   |some y =>
    obtain⟨c1,c2,_⟩:=cF hc;have hk:=m3 y.2 c1 ((ok y.2).2 ⟨by rw[c2];exact h3,by rw[c2];exact h2⟩);have hl:=((dE _ _).1 hu).length_le;have hp:dU x.2.zone.apex=dU b:=by
     have hk:dU y.2.zone.apex<=dU x.2.zone.apex:=hk;rw[c2]at hk;rw[back_eq,back_eq,List.length_reverse,List.length_reverse]at hl;have h9:dU x.2.zone.apex<=dU b:=by unfold dU;omega
     omega
    exact congrArg some (yw k2 h2 hp)
/-! ### Delegations -/
def cB(zs:List ai)(a:Bs):Option (List Datum):=match (if a=[46]then some a else cR zs a)with
 |none=>none
 |some b=>match aR zs b with
  |none=>none
  |some x=>(x.2.zone.sets.find? (is ⟨a,2⟩)).map λs=>s.set.data
theorem BW{q:aV}:∀{l:List Signed},RP l->l.filter (is q)=(l.find? (is q)).toList
 |[],_=>rfl
 |x::t,h=>by
  have ht:RP t:=(List.pairwise_cons.1 h).2;by_cases hx:is q x=true
  . rw[List.filter_cons_of_pos hx,List.find?_cons_of_pos hx];have:t.filter (is q)=[]:=List.filter_eq_nil_iff.2 λy hy hq=>by
     have e:x.place=y.place:=((lK q x).1 hx).trans ((lK q y).1 hq).symm;have exy:=RP.uniq h (List.mem_cons_self ..) (aM _ hy) e;have:=(List.pairwise_cons.1 h).1 y hy;rw[<- exy]at this;exact absurd this (by rw[(iY.zero _ _).2 rfl];omega)
    rw[this];rfl
  . rw[List.filter_cons_of_neg hx,List.find?_cons_of_neg hx];exact BW ht
theorem FV{z:aF}(hv:aY z=true):RP z.sets:=(dq.1 hv).ord.rising.pw
theorem sJ{z:aF}(hv:aY z=true)(a:Bs):bS z a=match z.sets.find? (is ⟨a,2⟩)with|some s=>s.set.data.map (·.text)|none=>[]:=by
 have:bS z a=(z.sets.filter (is ⟨a,2⟩)).flatMap λs=>s.set.data.map (·.text):=rfl
 rw[this,BW (FV hv)];cases z.sets.find? (is ⟨a,2⟩) <;> simp
theorem Ed{s:gG}(h:dP s=true):0<s.data.length:=by
 obtain⟨d,hd⟩:=qX h;exact(ar.1 hd).1
theorem tw{z:aF}(hv:aY z=true){q:aV}{s:Signed}(h:z.sets.find? (is q)=some s):s∈z.sets/\s.set.name=q.name/\s.set.type=q.type:=by
 have h1:=List.mem_of_find?_eq_some h;have h2:=List.find?_some h;unfold is at h2;simp only[aB,beq_iff_eq]at h2;exact⟨h1,h2.1,h2.2⟩
theorem tv{l:List Signed}{q:aV}:(l.find? (is q)).isSome=cP l q:=by
 unfold cP;rw[Bool.eq_iff_iff,List.find?_isSome,List.any_eq_true]
theorem oT{w:ay}(hv:aK w=true){a:Bs}(hc:(aR w.zones a).isSome=true):bB w.zones a=match cB w.zones a with|some l=>(l.map (·.text),true)|none=>([],false):=by
 have hz:∀p∈w.zones,aY p.zone=true:=λp hp=>(bE hv p hp).1
 have main:∀b x,aR w.zones b=some x->fK w.zones b a=match x.2.zone.sets.find? (is ⟨a,2⟩)with|some s=>s.set.data.map (·.text)|none=>[]:=λb x hx=>by
  unfold fK;rw[hx];exact sJ (hz _ (cF hx).1) a
 unfold bB cB;by_cases ha:a=[46]
 . rw[if_pos ha];have e:cR w.zones a=none:=by unfold cR gk;rw[if_pos ha]
   rw[e,if_pos ha];dsimp only;cases hx:aR w.zones a with
   |none=>rw[hx]at hc;cases hc
   |some x =>
    dsimp only;rw[main a x hx];obtain⟨c1,c2,_⟩:=cF hx;have:=(dq.1 (hz _ c1)).serv;rw[c2, <- tv]at this;cases hf:x.2.zone.sets.find? (is ⟨a,2⟩)with
    |none=>rw[hf]at this;cases this
    |some s=>rfl
 . have e1:(if a=[46]then some a else cR w.zones a)=cR w.zones a:=if_neg ha;rw[e1];cases hb:cR w.zones a with
   |none=>dsimp only;rw[if_neg ha]
   |some b =>
    dsimp only;cases hx:aR w.zones b with
    |none =>
     have:fK w.zones b a=[]:=by unfold fK;rw[hx]
     rw[this];rfl
    |some x =>
     dsimp only;rw[main b x hx];cases hf:x.2.zone.sets.find? (is ⟨a,2⟩)with
     |none=>rfl
     |some s =>
      dsimp only[Option.map];have hvz:=hz _ (cF hx).1;have:=Ed ((dq.1 hvz).ord.set s (tw hvz hf).1);rw[ak,decide_eq_true this]
theorem zB{s:gG}(h:dP s=true):∀d∈s.data,dZ (eG s.type) d=true:=λd hd=>by
 unfold dP at h;simp only[aB,ax,List.mem_range]at h;obtain⟨i,hi⟩:=cm hd;obtain⟨p,hp⟩:∃p,s.data[i-1]? =some p:=⟨_,ag (by have:=(ar.1 hi).1;omega)⟩
 have:=h.2 i (ar.1 hi).1;rw[tk hi hp]at this;unfold mK at this;simp only[Bool.not_eq_true',Bool.or_eq_false_iff,Bool.not_eq_false']at this;exact this.1
def qj(d:Datum):Prop:=d.n=0/\d.m=0
def kJ(d:Datum):Prop:=d.text=[]/\d.m=0
theorem Ao{s:gG}(h:dP s=true)(ht:s.type=2):∀d∈s.data,qj d:=λd hd=>by
 have:=zB h d hd;rw[ht]at this;unfold dZ eG within at this;simp only[aB,decide_eq_true_eq]at this;unfold qj;simp at this;omega
theorem za{s:gG}(h:dP s=true)(ht:s.type=1):∀d∈s.data,kJ d:=λd hd=>by
 have:=zB h d hd;rw[ht]at this;unfold dZ eG within jk at this;simp only[aB,decide_eq_true_eq]at this;unfold kJ;simp at this;refine⟨?_,by omega⟩;simpa using this.2
theorem CA:∀{a b:List Datum},(∀d∈a,qj d)->(∀d∈b,qj d)->a.map (·.text)=b.map (·.text)->a=b
 |[],[],_,_,_=>rfl
 |[],_::_,_,_,h=>by cases h
 |_::_,[],_,_,h=>by cases h
 |x::a,y::b,ha,hb,h=>by
  simp only[List.map_cons,List.cons.injEq]at h;have h1:=ha x (List.mem_cons_self ..);have h2:=hb y (List.mem_cons_self ..);rw[CA (λd hd=>ha d (aM _ hd)) (λd hd=>hb d (aM _ hd)) h.2]
  congr 1
  obtain⟨t,n,m⟩:=x;obtain⟨t',n',m'⟩:=y;unfold qj at h1 h2;simp at h1 h2 h;simp[h1,h2,h.1]
theorem Fc:∀{a b:List Datum},(∀d∈a,kJ d)->(∀d∈b,kJ d)->a.map (·.n)=b.map (·.n)->a=b
 |[],[],_,_,_=>rfl
 |[],_::_,_,_,h=>by cases h
 |_::_,[],_,_,h=>by cases h
 |x::a,y::b,ha,hb,h=>by
  simp only[List.map_cons,List.cons.injEq]at h;have h1:=ha x (List.mem_cons_self ..);have h2:=hb y (List.mem_cons_self ..);rw[Fc (λd hd=>ha d (aM _ hd)) (λd hd=>hb d (aM _ hd)) h.2]
  congr 1
  obtain⟨t,n,m⟩:=x;obtain⟨t',n',m'⟩:=y;unfold kJ at h1 h2;simp at h1 h2 h;simp[h1,h2,h.1]
def bD(w:ay)(n:Bs):List Datum:=iE (dA w ⟨n,1⟩)
theorem xS(w:ay)(n:Bs):cT w n=(bD w n).map (·.n):=rfl
theorem JP{w:ay}(hF:cw w)(hv:aK w=true):mC w.zones:=λp hp=>⟨hF.few p hp,(bE hv p hp).1⟩
theorem zd{w:ay}(hF:cw w)(hv:aK w=true){n:Bs}(h:bD w n≠[]):∃p∈w.zones,∃s∈p.zone.sets,s.set.type=1/\bD w n=s.set.data:=by
 unfold bD iE at h ⊢;split at h
 case isFalse=>exact absurd rfl h
 rename_i hA;rw[if_pos hA];split at h
 case h_2=>exact absurd rfl h
 rename_i s hs;have hm:=List.mem_of_getLast? hs;obtain⟨h1,h2⟩:=List.mem_filter.1 hm;unfold dA at h1;split at h1
 . cases h1
 . rename_i hq;have hq:bK ⟨n,1⟩=true:=by
    cases hb:bK ⟨n,1⟩with
    |true=>rfl
    |false=>rw[hv,hb]at hq;simp at hq
   obtain⟨p,hp,hsm⟩:=(sd (JP hF hv) 9 ⟨n,1⟩ [] hq (λs hs=>by cases hs)).1 s h1;exact⟨p,hp,s,hsm,by simpa using h2,rfl⟩
theorem Gm{w:ay}(hF:cw w)(hv:aK w=true)(n:Bs):∀d∈bD w n,kJ d:=λd hd=>by
 obtain⟨p,hp,s,hs,ht,he⟩:=zd hF hv (n:=n) (λe=>by rw[e]at hd;cases hd);rw[he]at hd;exact za ((dq.1 (bE hv p hp).1).ord.set s hs) ht d hd
def lD(z:aF):List Datum:=match z.sets.find? (is ⟨z.apex,2⟩)with|some s=>s.set.data|none=>[]
theorem MV{z:aF}(hv:aY z=true):bS z z.apex=(lD z).map (·.text):=by
 rw[sJ hv];unfold lD;cases z.sets.find? (is ⟨z.apex,2⟩) <;> rfl
theorem MU{z:aF}(hv:aY z=true):∀d∈lD z,qj d:=λd hd=>by
 unfold lD at hd;cases hf:z.sets.find? (is ⟨z.apex,2⟩)with
 |none=>rw[hf]at hd;cases hd
 |some s =>
  rw[hf]at hd;obtain⟨h1,_,h3⟩:=tw hv hf;exact Ao ((dq.1 hv).ord.set s h1) h3 d hd
theorem zD{w:ay}{a:Bs}{l:List Datum}(h:cB w.zones a=some l):∃b x s,(b=a/\a=[46]\/a≠[46]/\cR w.zones a=some b)/\aR w.zones b=some x/\x.2.zone.sets.find? (is ⟨a,2⟩)=some s/\l=s.set.data:=by
 unfold cB at h;have main:∀b,(match aR w.zones b with|none=>none|some x=>(x.2.zone.sets.find? (is ⟨a,2⟩)).map λs=>s.set.data)=some l-> ∃x s,aR w.zones b=some x/\x.2.zone.sets.find? (is ⟨a,2⟩)=some s/\l=s.set.data:=λb h=>by
  cases hc:aR w.zones b with
  |none=>rw[hc]at h;cases h
  |some x =>
   rw[hc]at h;dsimp only at h;cases hf:x.2.zone.sets.find? (is ⟨a,2⟩)with
   |none=>rw[hf]at h;cases h
   |some s=>rw[hf]at h;exact⟨x,s,rfl,hf,by simpa using h.symm⟩
 by_cases ha:a=[46]
 . rw[if_pos ha]at h;obtain⟨x,s,h1,h2,h3⟩:=main a h;exact⟨a,x,s,.inl ⟨rfl,ha⟩,h1,h2,h3⟩
 . rw[if_neg ha]at h;cases hb:cR w.zones a with
   |none=>rw[hb]at h;cases h
   |some b =>
    rw[hb]at h;obtain⟨x,s,h1,h2,h3⟩:=main b h;exact⟨b,x,s,.inr ⟨ha,rfl⟩,h1,h2,h3⟩
theorem Gv{w:ay}(hv:aK w=true){a:Bs}{l:List Datum}(h:cB w.zones a=some l):∀d∈l,qj d:=by
 obtain⟨b,x,s,_,h2,h3,rfl⟩:=zD h;have hz:=(bE hv _ (cF h2).1).1;obtain⟨k1,_,k3⟩:=tw hz h3;exact Ao ((dq.1 hz).ord.set s k1) k3
theorem rK{w:ay}(hv:aK w=true){a:Bs}{l:List Datum}(h:cB w.zones a=some l):l.length<=8/\0<l.length/\ ∀d∈l,au d.text=true:=by
 obtain⟨b,x,s,_,h2,h3,rfl⟩:=zD h;have hz:=(bE hv _ (cF h2).1).1;obtain⟨k1,_,k3⟩:=tw hz h3;have hs:=(dq.1 hz).ord.set s k1;exact⟨ub hs,Ed hs,Nj hs k3⟩
/-! ### The reference's findings -/
def vL(w:ay)(z:aF):List Fnd:=if cB w.zones z.apex=some (lD z)then[]else[⟨4,z.apex,z.apex⟩]
def ql(w:ay)(a n:Bs):List Fnd:=(if (bD w n).length=0 then[⟨3,a,n⟩]else[])++((bD w n).filter λd=> !bc w a d.n).map λ_=>⟨1,a,n⟩
def rZ(w:ay)(a:Bs)(s:Signed):List Fnd:=if s.set.data=bD w s.set.name then[]else[⟨2,a,s.set.name⟩]
def qm(w:ay)(z:aF):List Fnd:=vL w z++((cB w.zones z.apex).getD []).flatMap (λd=>ql w z.apex d.text)++(z.sets.filter (iZ z)).flatMap (rZ w z.apex)
def Ag(w:ay):List Fnd:=w.zones.flatMap λp=>match aR w.zones p.zone.apex with|some x=>qm w x.2.zone|none=>[]
theorem Fy(w:ay)(a n:Bs)(f:Fnd):f∈ql w a n ↔ f∈mL w a n:=by
 unfold ql mL;rw[List.mem_append,List.mem_append,xS];have h1:((bD w n).map (·.n)).isEmpty=true ↔ (bD w n).length=0:=by
  cases bD w n <;> simp
 have h2:((bD w n).map (·.n)).any (λn=> !bc w a n)=true ↔ ∃d∈bD w n,bc w a d.n=false:=by
  simp
 have e1:(f∈if (bD w n).length=0 then[(⟨3,a,n⟩:Fnd)]else[]) ↔ (f∈if ((bD w n).map (·.n)).isEmpty=true then[(⟨3,a,n⟩:Fnd)]else[]):=by
  by_cases h:(bD w n).length=0
  . rw[if_pos h,if_pos (h1.2 h)]
  . rw[if_neg h,if_neg (λe=>h (h1.1 e))]
 have e2:(f∈((bD w n).filter λd=> !bc w a d.n).map λ_=>(⟨1,a,n⟩:Fnd)) ↔ (f∈if ((bD w n).map (·.n)).any (λn=> !bc w a n)=true then[(⟨1,a,n⟩:Fnd)]else[]):=by
  rw[List.mem_map];by_cases h:((bD w n).map (·.n)).any (λn=> !bc w a n)=true
  . rw[if_pos h,List.mem_singleton];obtain⟨d,hd,hs⟩:=h2.1 h;exact⟨λ⟨_,_,e⟩=>e.symm,λe=>⟨d,List.mem_filter.2 ⟨hd,by simp[hs]⟩,e.symm⟩⟩
  . rw[if_neg h];constructor
    . rintro⟨d,hd,_⟩;obtain⟨d1,d2⟩:=List.mem_filter.1 hd;exact absurd (h2.2 ⟨d,d1,by simpa using d2⟩) h
    . intro h;cases h
 rw[e1,e2]
theorem yG{w:ay}(hF:cw w)(hv:aK w=true){p:ai}(hp:p∈w.zones)(f:Fnd):f∈qm w p.zone ↔ f∈pa w p.zone:=by
 have hz:=(bE hv p hp).1;unfold qm pa;rw[List.mem_append,List.mem_append,List.mem_append,List.mem_append];have hS:=oT hv (iP hp);have e1:vL w p.zone=ju w p.zone:=by
  unfold vL ju;rw[hS,MV hz];cases hd:cB w.zones p.zone.apex with
  |none=>simp
  |some l =>
   dsimp only;by_cases e:l=lD p.zone
   . rw[if_pos (by rw[e]),if_pos (by rw[e];simp)]
   . rw[if_neg (λh=>e (by simpa using h)),if_neg (λh=>e (CA (Gv hv hd) (MU hz) (by simpa using h)))]
 have e2:(bB w.zones p.zone.apex).1=((cB w.zones p.zone.apex).getD []).map (·.text):=by
  rw[hS];cases cB w.zones p.zone.apex <;> rfl
 have e3:f∈(((cB w.zones p.zone.apex).getD []).flatMap λd=>ql w p.zone.apex d.text) ↔ f∈(bB w.zones p.zone.apex).1.flatMap (mL w p.zone.apex):=by
  rw[e2,List.mem_flatMap,List.mem_flatMap];constructor
  . rintro⟨d,hd,h⟩;exact⟨d.text,List.mem_map_of_mem hd,(Fy _ _ _ _).1 h⟩
  . rintro⟨n,hn,h⟩;obtain⟨d,hd,rfl⟩:=List.mem_map.1 hn;exact⟨d,hd,(Fy _ _ _ _).2 h⟩
 have e4:f∈(p.zone.sets.filter (iZ p.zone)).flatMap (rZ w p.zone.apex) ↔ f∈(p.zone.sets.filter (iZ p.zone)).flatMap λs=>lR w p.zone.apex s.set:=by
  rw[List.mem_flatMap,List.mem_flatMap];refine exists_congr λs=>and_congr_right λhs=>?_
  obtain⟨h1,h2⟩:=List.mem_filter.1 hs;have ht:s.set.type=1:=by
   unfold iZ at h2;simp only[aB,beq_iff_eq]at h2;exact h2.1
  have hpl:=za ((dq.1 hz).ord.set s h1) ht;unfold rZ lR;rw[xS];by_cases e:s.set.data=bD w s.set.name
  . rw[if_pos e,if_pos (by rw[<- e];simp)]
  . rw[if_neg e,if_neg (λh=>e (Fc hpl (Gm hF hv _) (by simpa using Eq.symm (by simpa using h))))]
 rw[e1,e3,e4]
theorem KA{w:ay}(hF:cw w)(hv:aK w=true)(f:Fnd):f∈Ag w ↔ f∈findAll w:=by
 have C:=ji hv;unfold Ag findAll;rw[List.mem_flatMap,List.mem_flatMap];constructor
 . rintro⟨p,hp,h⟩;cases hc:aR w.zones p.zone.apex with
   |none=>rw[hc]at h;cases h
   |some x =>
    rw[hc]at h;obtain⟨c1,c2,_⟩:=cF hc;exact⟨x.2,(C.mem x.2).2 (by rw[c2,hc];rfl),(yG hF hv c1 f).1 h⟩
 . rintro⟨p,hp,h⟩;have hm:=(C.mem p).1 hp;refine⟨p,C.sub p hp,?_⟩;cases hc:aR w.zones p.zone.apex with
   |none=>rw[hc]at hm;cases hm
   |some x =>
    rw[hc]at hm;have:x.2=p:=by simpa using hm
    dsimp only;rw[this];exact(yG hF hv (C.sub p hp) f).2 h
theorem PW{w:ay}(hF:cw w)(hv:aK w=true):nc (Ag w)=fp w:=nY (KA hF hv)
/-! ### Worlds with the same copies -/
theorem wV{zs zs' :List ai}(h:∀a,(aR zs a).map (·.2)=(aR zs' a).map (·.2)):∀(f:Nat) (a:Bs),gk zs f a=gk zs' f a
 |0,_=>rfl
 |f+1,a=>by
  unfold gk;have e:(aR zs (bw a)).isSome=(aR zs' (bw a)).isSome:=by
   have:=congrArg Option.isSome (h (bw a));simpa using this
  rw[e,wV h f]
theorem xg{zs zs' :List ai}(h:∀a,(aR zs a).map (·.2)=(aR zs' a).map (·.2))(a:Bs):cB zs a=cB zs' a:=by
 have main:∀b,(match aR zs b with|none=>none|some x=>(x.2.zone.sets.find? (is ⟨a,2⟩)).map λs:Signed=>s.set.data)=(match aR zs' b with|none=>none|some x=>(x.2.zone.sets.find? (is ⟨a,2⟩)).map λs:Signed=>s.set.data):=λb=>by
  have:=h b;cases h1:aR zs b with
  |none =>
   cases h2:aR zs' b with
   |none=>rfl
   |some y=>rw[h1,h2]at this;cases this
  |some x =>
   cases h2:aR zs' b with
   |none=>rw[h1,h2]at this;cases this
   |some y =>
    rw[h1,h2]at this;have e:x.2=y.2:=by simpa using this
    dsimp only;rw[e]
 unfold cB;have e:cR zs a=cR zs' a:=wV h _ a;rw[e];cases (if a=[46]then some a else cR zs' a)with
 |none=>rfl
 |some b=>exact main b
structure Dk(w w' :ay):Prop where
 valid:aK w=true
 valid' :aK w' =true
 few:cw w
 few' :cw w'
 copy:∀a,(aR w.zones a).map (·.2)=(aR w'.zones a).map (·.2)
 served:∀a n,bc w a n=bc w' a n
theorem wW{w w' :ay}(h:Dk w w')(n:Bs):bD w n=bD w' n:=by
 unfold bD;cases hq:bK ⟨n,1⟩with
 |true=>rw[xK h.valid h.valid' hq h.copy]
 |false =>
  have e:∀w:ay,dA w ⟨n,1⟩=(iV,1):=λw=>by unfold dA;rw[if_pos (by rw[hq];simp)]
  rw[e,e]
theorem KB{w w' :ay}(h:Dk w w')(z:aF):qm w z=qm w' z:=by
 have e1:vL w z=vL w' z:=by unfold vL;rw[xg h.copy]
 have e2:∀n,ql w z.apex n=ql w' z.apex n:=λn=>by
  unfold ql;rw[wW h]
  congr 3
  funext d
  rw[h.served]
 have e3:∀s,rZ w z.apex s=rZ w' z.apex s:=λs=>by unfold rZ;rw[wW h]
 unfold qm;rw[e1,xg h.copy,show rZ w z.apex=rZ w' z.apex from funext e3,show(λd:Datum=>ql w z.apex d.text)=λd=>ql w' z.apex d.text from funext λd=>e2 _]
theorem nR{w:ay}(hF:cw w)(hv:aK w=true)(f:Fnd):f∈findAll w ↔ ∃p,(aR w.zones p.zone.apex).map (·.2)=some p/\f∈qm w p.zone:=by
 have C:=ji hv;unfold findAll;rw[List.mem_flatMap];refine exists_congr λp=>?_
 rw[C.mem p];refine and_congr_right λh=>?_
 have hp:p∈w.zones:=by
  cases hc:aR w.zones p.zone.apex with
  |none=>rw[hc]at h;cases h
  |some x =>
   rw[hc]at h;have e:x.2=p:=by simpa using h
   rw[<- e];exact(cF hc).1
 exact(yG hF hv hp f).symm
theorem find_congr{w w' :ay}(h:Dk w w'):fp w=fp w' :=nY λf=>by
 rw[nR h.few h.valid,nR h.few' h.valid'];exact exists_congr λp=>by rw[h.copy,KB h]
def FB(w:ay):ay:=eL w w.zones.reverse
theorem Qb{w:ay}(hv:aK w=true)(hF:cw w):Dk w (FB w):=by
 have hp:=sf hv;have hsym:∀x p:ai,cr p x=cr x p:=λx p=>by
  unfold cr;rw[Bool.eq_iff_iff];simp only[aB,beq_iff_eq];exact⟨λh=>⟨h.1.symm,h.2.symm⟩,λh=>⟨h.1.symm,h.2.symm⟩⟩
 have hr:w.zones.reverse.Pairwise (λx p=>cr p x=false):=List.pairwise_reverse.2 (hp.imp λ{a b} h=>by rw[hsym];exact h);have hv' :aK (FB w)=true:=xL hv (λp hp=>List.mem_reverse.1 hp) (by rw[List.length_reverse];exact Nat.le_refl _) hr;refine⟨hv,hv',hF,⟨hF.hosts,by show w.zones.reverse.length<=_;rw[List.length_reverse];exact hF.zones,hF.hints,λp hp=>hF.few p (List.mem_reverse.1 hp)⟩,LR hp λp=>List.mem_reverse.symm,λa n=>?_⟩;show w.zones.any _=w.zones.reverse.any _
 rw[List.any_reverse];rfl
/-! ### Who serves a zone,answers for it -/
theorem OL{z:aF}(hv:aY z=true):bU z z.apex=[]:=by
 have ho:=bC hv;unfold bU;cases hf:(cv z.apex z.sets).find? λc=>aH z.apex c with
 |none=>rfl
 |some c =>
  exfalso
  have h1:=List.mem_of_find?_eq_some hf;have h2:aH z.apex c=true:=by have:=List.find?_some hf;simpa using this
  obtain⟨s,hs,hi,he⟩:=(kx z.apex _ z.sets).1 h1;have hua:=ho.under s hs;unfold bz at hua;rw[if_pos ⟨ho.name s hs,ho.apex⟩,he]at hua;have:c=z.apex:=ng hua h2;unfold dj at hi;rw[he,this]at hi;simp at hi
theorem xI{a:Bs}(h:au a=true):bK ⟨a,4⟩=true:=by unfold bK;rw[h];rfl
theorem Jy{w:ay}(hF:cw w)(hv:aK w=true){a:Bs}(ha:au a=true){K:Int}(hK:0<=K):((vR w.zones K ⟨a,4⟩).kind==1)=w.zones.any λp=>(p.zone.apex==a)&&(p.host==K):=by
 have hz:∀p∈w.zones,aY p.zone=true:=λp hp=>(bE hv p hp).1
 have hk:qq w.zones K ⟨a,4⟩=fq w.zones K a []:=rfl;unfold vR;rw[hk];have nz:∀p∈w.zones,p.zone.apex≠[]:=λp hp=>yT (dq.1 (hz p hp)).ord.apex
 cases hd:fq w.zones K a []with
 |none =>
  have hno:=((km _ _ _).1 hd).2
  symm
  dsimp only;rw[show(((7:Int)==1)=false)from rfl,List.any_eq_false];intro p hp;simp only[aB,beq_iff_eq];rintro⟨h1,h2⟩;have:=hno p hp;rw[(gJ hK).2 ⟨h2,nz p hp,by rw[h1];exact fW a⟩]at this;cases this
 |some x =>
  obtain⟨m1,m2,m3⟩:=tn hd;obtain⟨k1,k2,k3⟩:=(gJ hK).1 m2;have hval:=hz _ m1;have u:Use x.2.zone ⟨a,4⟩:=⟨hF.few _ m1,hval,xI ha,k3⟩
  dsimp only;rw[Bool.eq_iff_iff,beq_iff_eq,u.Uc,List.any_eq_true];constructor
  . rintro⟨_,h2⟩;obtain⟨s,hs,hp⟩:=sA.1 h2;have hn:s.set.name=a:=congrArg Prod.fst hp;have ht:s.set.type=4:=congrArg Prod.snd hp;have hfit:=(dq.1 hval).fit s hs;rw[ht]at hfit;have:s.set.name=x.2.zone.apex:=by simpa [fits] using hfit
    exact⟨x.2,m1,by simp[<- this,hn,k1]⟩
  . rintro⟨p,hp,h⟩;simp only[aB,beq_iff_eq]at h;have hup:aH a p.zone.apex=true:=by rw[h.1];exact fW a
    have hkey:=m3 p hp ((gJ hK).2 ⟨h.2,nz p hp,hup⟩);have hle:dU p.zone.apex<=dU x.2.zone.apex:=hkey;have hle2:dU x.2.zone.apex<=dU a:=by
     have:=((dE _ _).1 k3).length_le;rw[back_eq,back_eq,List.length_reverse,List.length_reverse]at this;unfold dU;omega
    have e:x.2.zone.apex=a:=by
     rw[h.1]at hle;exact yw k3 (fW a) (by omega)
    have hst:=(dq.1 hval).start;rw[e]at hst;refine⟨?_,hst⟩;rw[yU];have hc:bU x.2.zone a=[]:=by
     rw[<- e];exact OL hval
    show(!(bU x.2.zone a==[])&&_)=false
    rw[hc];rfl
theorem wG{w:ay}(hF:cw w)(hv:aK w=true){f:Fnd}:f∈fp w ↔ ∃p,(aR w.zones p.zone.apex).map (·.2)=some p/\f∈qm w p.zone:=by
 unfold fp;rw[kI,nR hF hv]
theorem Ie{zs:List ai}{p:ai}(h:(aR zs p.zone.apex).map (·.2)=some p):p∈zs:=by
 cases hc:aR zs p.zone.apex with
 |none=>rw[hc]at h;cases h
 |some x =>
  rw[hc]at h;have e:x.2=p:=by simpa using h
  rw[<- e];exact(cF hc).1
theorem PG{w:ay}{z:aF}{f:Fnd}:f∈vL w z ↔ f=⟨4,z.apex,z.apex⟩/\cB w.zones z.apex≠some (lD z):=by
 unfold vL;by_cases h:cB w.zones z.apex=some (lD z)
 . rw[if_pos h];simp[h]
 . rw[if_neg h];simp[h]
theorem PH{w:ay}{a n:Bs}{f:Fnd}:f∈ql w a n ↔ (f=⟨3,a,n⟩/\bD w n=[])\/(f=⟨1,a,n⟩/\ ∃d∈bD w n,bc w a d.n=false):=by
 unfold ql;rw[List.mem_append,List.mem_map];refine or_congr ?_ ?_
 . by_cases h:bD w n=[]
   . simp[h]
   . rw[if_neg (λe=>h (List.eq_nil_of_length_eq_zero e))];simp[h]
 . constructor
   . rintro⟨d,hd,rfl⟩;obtain⟨h1,h2⟩:=List.mem_filter.1 hd;exact⟨rfl,d,h1,by simpa using h2⟩
   . rintro⟨rfl,d,h1,h2⟩;exact⟨d,List.mem_filter.2 ⟨h1,by simp[h2]⟩,rfl⟩
theorem EX{w:ay}{a:Bs}{s:Signed}{f:Fnd}:f∈rZ w a s ↔ f=⟨2,a,s.set.name⟩/\s.set.data≠bD w s.set.name:=by
 unfold rZ;by_cases h:s.set.data=bD w s.set.name
 . rw[if_pos h];simp[h]
 . rw[if_neg h];simp[h]
theorem lX{w:ay}{z:aF}{f:Fnd}:f∈qm w z ↔ (f=⟨4,z.apex,z.apex⟩/\cB w.zones z.apex≠some (lD z)) \/
 (∃d∈(cB w.zones z.apex).getD [],(f=⟨3,z.apex,d.text⟩/\bD w d.text=[])\/(f=⟨1,z.apex,d.text⟩/\ ∃x∈bD w d.text,bc w z.apex x.n=false)) \/
 (∃s∈z.sets,iZ z s=true/\f=⟨2,z.apex,s.set.name⟩/\s.set.data≠bD w s.set.name):=by
 unfold qm;rw[List.mem_append,List.mem_append,List.mem_flatMap,List.mem_flatMap,PG,or_assoc];refine or_congr Iff.rfl (or_congr ?_ ?_)
 . exact exists_congr λd=>and_congr_right λ_=>PH
 . constructor
   . rintro⟨s,hs,h⟩;obtain⟨h1,h2⟩:=List.mem_filter.1 hs;obtain⟨h3,h4⟩:=EX.1 h;exact⟨s,h1,h2,h3,h4⟩
   . rintro⟨s,h1,h2,h3,h4⟩;exact⟨s,List.mem_filter.2 ⟨h1,h2⟩,EX.2 ⟨h3,h4⟩⟩
theorem Pf{w:ay}(hF:cw w)(hv:aK w=true){f:Fnd}(h:f∈fp w):∃p,(aR w.zones f.zone).map (·.2)=some p/\p∈w.zones/\p.zone.apex=f.zone /\
 ((f.kind=4/\f.name=f.zone/\cB w.zones f.zone≠some (lD p.zone)) \/
  (f.kind=3/\bD w f.name=[])\/(f.kind=1/\ ∃x∈bD w f.name,bc w f.zone x.n=false) \/
  (f.kind=2/\ ∃s∈p.zone.sets,iZ p.zone s=true/\f.name=s.set.name/\s.set.data≠bD w f.name)):=by
 obtain⟨p,hp,h⟩:=(wG hF hv).1 h;have hm:=Ie hp;rcases lX.1 h with ⟨rfl,h3⟩|⟨d,_,⟨rfl,h3⟩|⟨rfl,h3⟩⟩|⟨s,h1,h2,rfl,h4⟩
 . exact⟨p,hp,hm,rfl,.inl ⟨rfl,rfl,h3⟩⟩
 . exact⟨p,hp,hm,rfl,.inr (.inl ⟨rfl,h3⟩)⟩
 . exact⟨p,hp,hm,rfl,.inr (.inr (.inl ⟨rfl,h3⟩))⟩
 . exact⟨p,hp,hm,rfl,.inr (.inr (.inr ⟨rfl,s,h1,h2,rfl,h4⟩))⟩
def kj(l:List Fnd)(a:Bs):Bool:=l.any λf=>(f.zone==a)&&(f.kind != 2)
theorem Pe{w:ay}(hF:cw w)(hv:aK w=true){p:ai}(hp:(aR w.zones p.zone.apex).map (·.2)=some p)(h:kj (fp w) p.zone.apex=false) :
 cB w.zones p.zone.apex=some (lD p.zone)/\ ∀d∈lD p.zone,bD w d.text≠[]/\ ∀x∈bD w d.text,bc w p.zone.apex x.n=true:=by
 have no:∀f∈qm w p.zone,f.zone=p.zone.apex->f.kind=2:=λf hf hz=>by
  have h:=List.any_eq_false.1 h f ((wG hF hv).2 ⟨p,hp,hf⟩);simpa [hz] using h
 have hd:cB w.zones p.zone.apex=some (lD p.zone):=Classical.byContradiction λe=>by
  have:=no ⟨4,p.zone.apex,p.zone.apex⟩ (lX.2 (.inl ⟨rfl,e⟩)) rfl;cases this
 refine⟨hd,λd hdm=>⟨λe=>?_,λx hx=>?_⟩⟩
 . have:=no ⟨3,p.zone.apex,d.text⟩ (lX.2 (.inr (.inl ⟨d,by rw[hd];exact hdm,.inl ⟨rfl,e⟩⟩))) rfl;cases this
 . cases hs:bc w p.zone.apex x.n with
   |true=>rfl
   |false =>
    have:=no ⟨1,p.zone.apex,d.text⟩ (lX.2 (.inr (.inl ⟨d,by rw[hd];exact hdm,.inr ⟨rfl,x,hx,hs⟩⟩))) rfl;cases this
theorem Pg{w:ay}(hF:cw w)(hv:aK w=true){a:Bs}(hc:(aR w.zones a).isSome=true){l:List Datum}(hd:cB w.zones a=some l)(hno:∀d∈l,∀x∈bD w d.text,bc w a x.n=false):kj (fp w) a=true:=by
 obtain⟨x,hx⟩:=Option.isSome_iff_exists.1 hc;obtain⟨c1,c2,_⟩:=cF hx;have hp:(aR w.zones x.2.zone.apex).map (·.2)=some x.2:=by rw[c2,hx];rfl
 obtain⟨_,h1,_⟩:=rK hv hd;obtain⟨d,hdm⟩:∃d,d∈l:=⟨l[0],List.getElem_mem h1⟩
 have hdm' :d∈(cB w.zones x.2.zone.apex).getD []:=by rw[c2,hd];exact hdm
 unfold kj;rw[List.any_eq_true];by_cases e:bD w d.text=[]
 . exact⟨⟨3,x.2.zone.apex,d.text⟩,(wG hF hv).2 ⟨x.2,hp,lX.2 (.inr (.inl ⟨d,hdm',.inl ⟨rfl,e⟩⟩))⟩,by simp[c2]⟩
 . obtain⟨y,hy⟩:=List.exists_mem_of_ne_nil _ e;exact⟨⟨1,x.2.zone.apex,d.text⟩,(wG hF hv).2 ⟨x.2,hp,lX.2 (.inr (.inl ⟨d,hdm',.inr ⟨rfl,y,hy,by rw[c2];exact hno d hdm y hy⟩⟩))⟩,by simp[c2]⟩
/-! ### Mending -/
theorem GU{l:List ai}{p:ai}(hp:p∈l):p.zone.apex∈eu l:=((nN l).2 _).2 ⟨p,hp,rfl⟩
theorem NH{w:ay}(h:aK w=true){p:ai}(hz:aY p.zone=true)(h0:0<=p.host)(h1:p.host<(w.hosts.length:Int))(ha:(aR w.zones p.zone.apex).isSome=true)
 (hs:w.zones.any (cr p)=false) (hl:w.zones.length<4000):aK (eL w (w.zones++[p]))=true:=by
 unfold aK iX at h ⊢;simp only[aB,decide_eq_true_eq]at h ⊢;obtain⟨⟨g1,⟨g2,g3⟩,g4⟩,g5⟩:=h;rw[sk]at g4;rw[kr]at g3;obtain⟨x,hx⟩:=Option.isSome_iff_exists.1 ha;obtain⟨c1,c2,_⟩:=cF hx;have hin:(eu w.zones).contains p.zone.apex=true:=by
  rw[df, <- c2];exact GU c1
 refine⟨⟨g1,⟨by show((w.zones++[p]).length:Int)<=4000;rw[List.length_append,List.length_singleton];omega,by
  show dx w.hosts.length [] (w.zones++[p])=true
  rw[kr];refine⟨λq hq=>⟨?_,rfl⟩,List.pairwise_append.2 ⟨g3.2,List.pairwise_singleton _ _,λa ham b hb=>?_⟩⟩
  . rcases List.mem_append.1 hq with hq|hq
    . exact(g3.1 q hq).1
    . rw[List.mem_singleton]at hq;subst hq;have e0:¬q.host<0:=by omega
      have e1:¬q.host>=(w.hosts.length:Int):=by omega
      rw[decide_eq_false e0,decide_eq_false e1,hz];rfl
  . rw[List.mem_singleton]at hb;subst hb;have:=List.any_eq_false.1 hs a ham;simpa using this⟩,?_⟩,g5⟩
 show((apx (w.zones++[p])).length:Int)<=500
 rw[sk,rz,if_pos hin];exact g4
theorem Ap(w:ay)(p:ai)(a:Bs)(n:Int):bc (eL w (w.zones++[p])) a n=(bc w a n||((p.zone.apex==a)&&(addrOf w.hosts p.host==n))):=by
 show(w.zones++[p]).any _=_
 rw[List.any_append,List.any_cons,List.any_nil,jl];rfl
def qc(z:aF)(x:ay)(n:Int):ay:=if bc x z.apex n=true then x else eL x (x.zones++[⟨cN x.hosts n,z⟩])
structure yW(w:ay)(a:Bs)(k:Nat)(x:ay):Prop where
 hosts:x.hosts=w.hosts
 valid:aK x=true
 few:cw x
 size:x.zones.length<=w.zones.length+k
 copy:(aR x.zones a).isSome=true
theorem MM{w x:ay}{z:aF}(hz:aY z=true)(hf:iv z=true){k:Nat}(h:yW w z.apex k x)(hk:w.zones.length+k<900){n:Int}(hn:¬cN w.hosts n<0) :
 yW w z.apex (k+1) (qc z x n)/\bc (qc z x n) z.apex n=true/\ ∀m,bc x z.apex m=true->bc (qc z x n) z.apex m=true:=by
 unfold qc;cases hs:bc x z.apex n with
 |true=>rw[if_pos rfl];exact⟨⟨h.hosts,h.valid,h.few,by have:=h.size;omega,h.copy⟩,hs,λm hm=>hm⟩
 |false =>
  rw[if_neg (by simp)];rw[<- h.hosts]at hn;obtain⟨j,hj⟩:∃j:Nat,cN x.hosts n=(j:Int):=⟨(cN x.hosts n).toNat,by omega⟩
  obtain⟨y,hy,hya⟩:=zL hj;have hjl:=(ar.1 hy).1;have haddr:addrOf x.hosts (cN x.hosts n)=n:=by unfold addrOf;rw[hj,Int.toNat_natCast,hy];exact hya
  have hsz:=h.size;have hsame:x.zones.any (cr ⟨cN x.hosts n,z⟩)=false:=by
   rw[List.any_eq_false];intro p hp;have:=List.any_eq_false.1 hs p hp;rw[<- qM h.valid hp]at this;unfold cr;simp only[aB,beq_iff_eq]at this ⊢;rintro⟨e1,e2⟩;exact this ⟨e2.symm,e1.symm⟩
  refine⟨⟨h.hosts,NH h.valid hz (by show 0<=cN x.hosts n;omega) (by show cN x.hosts n<_;omega) h.copy hsame (by omega),⟨h.few.hosts,by show(x.zones++[_]).length<=1000;rw[List.length_append,List.length_singleton];omega,h.few.hints,λp hp=>?_⟩,?_,?_⟩,?_,λm hm=>?_⟩
  . rcases List.mem_append.1 hp with hp|hp
    . exact h.few.few p hp
    . rw[List.mem_singleton]at hp;subst hp;exact hf
  . show(x.zones++[_]).length<=_
    rw[List.length_append,List.length_singleton];omega
  . have:=iP (zs:=x.zones++[⟨cN x.hosts n,z⟩]) (p:=⟨cN x.hosts n,z⟩) (by simp);exact this
  . rw[Ap,haddr];simp
  . rw[Ap,hm];rfl
theorem Ts{w:ay}(hF:cw w)(hv:aK w=true){f:Fnd}(hk:f.kind=1){l:List Datum}(hs:∀d∈l,bc w f.zone d.n=true)(he:bD w f.name=l):f ∉ fp w:=λh=>by
 obtain⟨p,_,_,_,h⟩:=Pf hF hv h;rcases h with h|h|h|h
 . rw[hk]at h;cases h.1
 . rw[hk]at h;cases h.1
 . obtain⟨_,x,hx,h2⟩:=h;rw[he]at hx;rw[hs x hx]at h2;cases h2
 . rw[hk]at h;cases h.1
end NP
namespace NQ
open Go
def App(X:St->Prop)(s:St):Prop:=X s
theorem su{α:Type}{G:Prop}{P:α->Prop}{canon:α->St}{X:St->Prop}(h1:(∀a,P a->App X (canon a))->G)(h2:∀a,P a->App X (canon a)):G:=h1 h2
theorem ib{cx:Cx}{st st1:St}{X:St->Prop}(hw:aj cx st st1)(h:App X st1):∃st',aj cx st st' /\X st' :=⟨st1,hw,h⟩
end NQ
namespace NP
open NQ Go
theorem oV{l:List Fnd}{f:Fnd}(h:l.Nodup):(nu l f).Nodup:=by
 unfold nu;split
 . exact h
 . rename_i hn;refine List.nodup_append.2 ⟨h,by simp,λa ha b hb e=>?_⟩;rw[List.mem_singleton]at hb;subst e;subst hb;exact hn (df.2 ha)
theorem JI{w:ay}{a s:Bs}{e y:Bool}(he:(cT w s).isEmpty=e)(hy:((cT w s).any λn=> !bc w a n)=y):mL w a s=(if e=true then[⟨3,a,s⟩]else[])++(if y=true then[⟨1,a,s⟩]else[]):=by unfold mL;rw[he,hy]
theorem nS{α β:Type}{f:α->List β}{c:Nat}:∀{l:List α},(∀x∈l,(f x).length<=c)->(l.flatMap f).length<=c*l.length
 |[],_=>Nat.zero_le _
 |x::t,h=>by
  have h1:=h x (List.mem_cons_self ..);have h2:=nS (f:=f) (c:=c) (l:=t) λy hy=>h y (aM _ hy)
  rw[List.flatMap_cons,List.length_append,List.length_cons,Nat.mul_succ];omega
theorem xC{w:ay}(hv:aK w=true){p:ai}(hp:p∈w.zones):(bB w.zones p.zone.apex).1.length<=8/\ ∀s∈(bB w.zones p.zone.apex).1,au s=true:=by
 rw[oT hv (iP hp)];cases hd:cB w.zones p.zone.apex with
 |none=>exact⟨Nat.zero_le _,λs hs=>by cases hs⟩
 |some l =>
  obtain⟨h1,_,h3⟩:=rK hv hd;refine⟨by show(l.map _).length<=8;rw[ak];exact h1,λs hs=>?_⟩;obtain⟨d,hd,rfl⟩:=List.mem_map.1 hs;exact h3 d hd
theorem Mb{w:ay}(hF:cw w)(hv:aK w=true){p:ai}(hp:p∈w.zones):(pa w p.zone).length<=117:=by
 unfold pa;rw[List.length_append,List.length_append];have h1:(ju w p.zone).length<=1:=by unfold ju;split <;> simp
 have h2:=nS (f:=mL w p.zone.apex) (c:=2) (l:=(bB w.zones p.zone.apex).1) λs _=>by
  unfold mL;rw[List.length_append];split <;> split <;> simp
 have h3:=nS (f:=λs:Signed=>lR w p.zone.apex s.set) (c:=1) (l:=p.zone.sets.filter (iZ p.zone)) λs _=>by
  show(lR w p.zone.apex s.set).length<=1
  unfold lR;split <;> simp
 have h4:=(xC hv hp).1;have h5:=(dv (hF.few p hp)).1;have h6:=List.length_filter_le (iZ p.zone) p.zone.sets;omega
theorem xi{w:ay}(hF:cw w)(hv:aK w=true)(hz:w.zones.length<=100):(findAll w).length<=11700:=by
 have h1:=nS (f:=λp:ai=>pa w p.zone) (c:=117) (l:=fb w.zones) λp hp=>Mb hF hv ((ji hv).sub p hp)
 have h2:=AT w.zones;unfold findAll;have:117*(fb w.zones).length<=117*100:=Nat.mul_le_mul_left _ (by omega);omega
theorem Es{w:ay}(hF:cw w)(hv:aK w=true){f:Fnd}(h:f∈findAll w):au f.zone=true/\au f.name=true:=by
 obtain⟨p,hp,h⟩:=(nR hF hv f).1 h;have hm:=Ie hp;have V:=dq.1 (bE hv p hm).1;have ha:=V.ord.apex;rcases lX.1 h with ⟨rfl,h⟩|⟨d,hd,h⟩|⟨s,h1,h2,rfl,h4⟩
 . exact⟨ha,ha⟩
 . have hdv:au d.text=true:=by
    cases hl:cB w.zones p.zone.apex with
    |none=>rw[hl]at hd;cases hd
    |some l=>rw[hl]at hd;exact(rK hv hl).2.2 d hd
   rcases h with ⟨rfl,_⟩|⟨rfl,_⟩
   . exact⟨ha,hdv⟩
   . exact⟨ha,hdv⟩
 . exact⟨ha,V.ord.name s h1⟩
theorem vC{α β:Type}(f:α->β):∀(l:List α) (i:Nat),(l.map f).eraseIdx i=(l.eraseIdx i).map f
 |[],_=>rfl
 |_::_,0=>rfl
 |x::t,i+1=>by
  show f x::(t.map f).eraseIdx i=f x::(t.eraseIdx i).map f
  rw[vC f t i]
structure Rg(w:ay)(L:List ai)(m:List (Bs×List Int))(l:List Fnd):Prop where
 sub:∀p∈L,p∈fb w.zones
 cache:kY w m
 nodup:l.Nodup
 all:∀f,(f∈l\/f∈L.flatMap λp=>pa w p.zone) ↔ f∈findAll w
theorem Br{β:Type}{f:ai->List β}{L:List ai}{i:Nat}{p:ai}(hp:L[i]? =some p)(x:β):x∈L.flatMap f ↔ x∈f p\/x∈(L.eraseIdx i).flatMap f:=by
 have h:=tq hp;rw[<- (h.flatMap_right f).mem_iff,List.flatMap_cons,List.mem_append]
end NP
namespace Go.Proofs.YtjapjahfllomkaaGreatDoor
open NQ Go NP Go.RowKit
def Us:Nat->List Nat
 |1000=>[44444]
 |5=>[44444,88888]
 |6=>[88888]
 |7=>[88888]
 |8=>[6,7]
 |9=>[44444,88888]
 |11=>[88888]
 |12=>[55555]
 |15=>[88888]
 |17=>[88888]
 |18=>[55555]
 |19=>[88888]
 |23=>[66666]
 |24=>[88888]
 |25=>[20]
 |_=>[]
def wI(a:Bs):AV:= .fn 45 [] [.ptr 100005 0,.d (.ptr [.str a])]
def hN2(a:Bs)(l:List Fnd):List (Nat×Blk):=[(100005,.box [.omap 20]),(20,.kmap (dh l)),(300008,.box [wI a])]
theorem oB(l:List Fnd)(kind:Int)(s a:Bs):FnH cxF 45 [.d (.int .i64 kind),.d (.str s),.ptr 100005 0,.d (.ptr [.str a])] (hN2 a l) (.tuple []) (hN2 a (nu l ⟨kind,a,s⟩)):=by
 have hput:=Il (f:=⟨kind,a,s⟩) (l:=l);refine mM (λ_=>[]) tyF qe Tryz.func45 (by kernel_rfl) rfl (ah rfl) (ah rfl) ?_
 conv=>whnf
 refine⟨_,hput,?_⟩
 conv=>whnf
 exact⟨[],aj.keep trivial ⟨⟨rfl,rfl⟩,⟨rfl,rfl⟩,⟨rfl,rfl⟩,trivial⟩,rfl⟩
@[reducible] def stF (w:ay) (z:aF) (S:List Bs) (left:List (List D×D)) (cur:Option (List D×D)) (m:List (Bs×List Int)) (l:List Fnd):St :=
 ⟨[(4,.ptr 100004 0),(5,.ptr 100005 0),(6,.d (.ptr [.str z.apex])),(7,.d (.ptr (aW z))),(8,.ptr 300008 0),(9,.d (.slice 1 (S.map aP))),(23,.ptr 200023 0)],[(100004,.box (cW w 18)),(18,.smap (cG m)),(100005,.box [.omap 20]),(20,.kmap (dh l)),(300008,.box [wI z.apex]),(200023,.iter left cur)]⟩
@[reducible] def stS (w:ay) (z:aF) (S:List Bs) (k:Nat) (s:Bs) (AD:List Int) (left:List (List D×D)) (cur:Option (List D×D)) (m:List (Bs×List Int)) (l:List Fnd):St :=
 ⟨[(4,.ptr 100004 0),(5,.ptr 100005 0),(6,.d (.ptr [.str z.apex])),(7,.d (.ptr (aW z))),(8,.ptr 300008 0),(12,.d (.str s)),(13,.d (.slice 1 (AD.map bd))),(49,.d (.slice 1 (S.map aP))),(50,.d (.int .i64 ((S.map aP).length:Int))),(51,.d (.int .i64 k)),(23,.ptr 200023 0)],[(100004,.box (cW w 18)),(18,.smap (cG m)),(100005,.box [.omap 20]),(20,.kmap (dh l)),(300008,.box [wI z.apex]),(200023,.iter left cur)]⟩
set_option maxHeartbeats 4000000 in
theorem Ep(w:ay)(hF:cw w)(hv:aK w=true)(hz:w.zones.length<=100):NQ.Fn cx 13 [.agg (ba w)] (.tuple [.d (.slice 3 ((fp w).map cg)),.d (.int .i64 0)]) []:=by
 show NQ.Fn cxF _ _ _ _
 have fV:=rj w hF;rw[hv]at fV;have fC:=vG w hF hv;refine vk Us tyF qe Tryz.func13 (by kernel_rfl) rfl (ah rfl) ?_
 conv=>whnf
 (refine⟨_,_,fV,?_⟩;conv=>whnf)
 (refine⟨_,_,fC,?_⟩;conv=>whnf)
 refine⟨⟨[(4,.ptr 100004 0),(5,.ptr 100005 0)],[(100004,.box (cW w 18)),(18,.smap (cG [])),(100005,.box [.omap 20]),(20,.kmap (dh []))]⟩,(gH.ren [4,5] (by kernel_rfl)).trans (aj.zero (aj.keep ⟨⟨(by kernel_rfl),(by kernel_rfl)⟩,⟨(by kernel_rfl),(by kernel_rfl)⟩,trivial⟩ ⟨⟨(by kernel_rfl),(by kernel_rfl)⟩,⟨(by kernel_rfl),(by kernel_rfl)⟩,⟨(by kernel_rfl),(by kernel_rfl)⟩,⟨(by kernel_rfl),(by kernel_rfl)⟩,trivial⟩)),?_⟩
 conv=>whnf
 refine⟨⟨[(4,.ptr 100004 0),(5,.ptr 100005 0),(23,.ptr 200023 0)],[(100004,.box (cW w 18)),(18,.smap (cG [])),(100005,.box [.omap 20]),(20,.kmap (dh [])),(200023,.iter ((bV (fb w.zones)).map cK) none)]⟩,(gH.qn 200000 [23] (by kernel_rfl)).trans (aj.zero (aj.keep ⟨⟨(by kernel_rfl),(by kernel_rfl)⟩,⟨(by kernel_rfl),(by kernel_rfl)⟩,⟨(by kernel_rfl),(by kernel_rfl)⟩,trivial⟩ ⟨⟨(by kernel_rfl),(by kernel_rfl)⟩,⟨(by kernel_rfl),(by kernel_rfl)⟩,⟨(by kernel_rfl),(by kernel_rfl)⟩,⟨(by kernel_rfl),(by kernel_rfl)⟩,⟨(by kernel_rfl),(by kernel_rfl)⟩,trivial⟩)),?_⟩
 conv=>whnf
 refine⟨List ai×Option (List D×D)×List (Bs×List Int)×List Fnd,λx=>⟨[(4,.ptr 100004 0),(5,.ptr 100005 0),(23,.ptr 200023 0)],[(100004,.box (cW w 18)),(18,.smap (cG x.2.2.1)),(100005,.box [.omap 20]),(20,.kmap (dh x.2.2.2)),(200023,.iter ((bV x.1).map cK) x.2.1)]⟩,
  λx=>Rg w x.1 x.2.2.1 x.2.2.2,λx=>x.1.length,
  ⟨(fb w.zones,none,[],[]),⟨λp hp=>hp,(λp hp=>by cases hp),List.nodup_nil,λf=>by simp[findAll]⟩,aj.keep ⟨ab,ab,ab,trivial⟩ ⟨ab,ab,ab,ab,ab,trivial⟩⟩,λ⟨L,cur,m,l⟩ K=>?_⟩
 dsimp only at K ⊢
 conv=>whnf
 refine⟨λhnil=>?_,λi kk y hy=>?_⟩
 . have hL:L=[]:=by
    unfold bV at hnil;simpa using hnil
   have hall:∀f,f∈l ↔ f∈findAll w:=λf=>by
    have:=K.all f;rw[hL]at this;simpa using this
   have hlen:l.length<=100000:=by
    have h1:=qP K.nodup λf hf=>(hall f).1 hf
    have h2:=xi hF hv hz;omega
   have fS:=KS l K.nodup (λf hf=>Es hF hv ((hall f).1 hf)) hlen;rw[nY hall]at fS
   conv=>whnf
   (refine⟨_,_,Py l,?_⟩;conv=>whnf)
   (refine⟨_,_,fS,?_⟩;conv=>whnf)
   exact af rfl rfl
 . obtain⟨p,hp,hpe⟩:∃p,L[i]? =some p/\cK (p.zone.apex,.agg (aW p.zone))=(kk,y):=by
    rw[aQ]at hy;unfold bV at hy;rw[aQ]at hy;cases hL:L[i]? with
    |none=>rw[hL]at hy;cases hy
    |some p=>rw[hL]at hy;exact⟨p,rfl,by simpa using hy⟩
   cases hpe;have hpm:=(ji hv).sub p (K.sub p (aq hp));have hvz:=(bE hv p hpm).1;have hval:au p.zone.apex=true:=(dq.1 hvz).ord.apex;have hfz:=dv (hF.few p hpm);have hpl:=(ar.1 hp).1
   conv=>whnf
   refine⟨⟨[(4,.ptr 100004 0),(5,.ptr 100005 0),(6,.d (.ptr [.str p.zone.apex])),(7,.d (.ptr (aW p.zone))),(8,.ptr 300008 0),(23,.ptr 200023 0)],[(100004,.box (cW w 18)),(18,.smap (cG m)),(100005,.box [.omap 20]),(20,.kmap (dh l)),(300008,.box [wI p.zone.apex]),(200023,.iter ((bV L).map cK |>.eraseIdx i) (some (cK (p.zone.apex,.agg (aW p.zone)))))]⟩,
    (gH.qn 300000 [8] (by kernel_rfl)).trans (aj.zero (aj.keep ⟨⟨(by kernel_rfl),(by kernel_rfl)⟩,⟨(by kernel_rfl),(by kernel_rfl)⟩,⟨(by kernel_rfl),(by kernel_rfl)⟩,⟨(by kernel_rfl),(by kernel_rfl)⟩,⟨(by kernel_rfl),(by kernel_rfl)⟩,⟨(by kernel_rfl),(by kernel_rfl)⟩,trivial⟩ ⟨⟨(by kernel_rfl),(by kernel_rfl)⟩,⟨(by kernel_rfl),(by kernel_rfl)⟩,⟨(by kernel_rfl),(by kernel_rfl)⟩,⟨(by kernel_rfl),(by kernel_rfl)⟩,⟨(by kernel_rfl),(by kernel_rfl)⟩,⟨(by kernel_rfl),(by kernel_rfl)⟩,trivial⟩)),?_⟩
   conv=>whnf
   refine⟨[100005,20,200023,300008],_,_,FG w m p.zone.apex hF hv hval,⟨⟨by kernel_rfl,by kernel_rfl⟩,by kernel_rfl,by kernel_rfl,by kernel_rfl⟩,?_⟩;obtain⟨hS8,hSv⟩:=xC hv hpm;have hB:ju w p.zone=if ((bB w.zones p.zone.apex).2&&((bB w.zones p.zone.apex).1==bS p.zone p.zone.apex))=true then[]else[⟨4,p.zone.apex,p.zone.apex⟩]:=rfl
   have hZ:pa w p.zone=ju w p.zone++(bB w.zones p.zone.apex).1.flatMap (mL w p.zone.apex)++(p.zone.sets.filter (iZ p.zone)).flatMap λs=>lR w p.zone.apex s.set:=rfl
   have hfl:=λf=>(Br (f:=λp=>pa w p.zone) hp f)
   generalize hserv:bB w.zones p.zone.apex=SR at *
   obtain⟨S,ok⟩:=SR;dsimp only at hS8 hSv hB hZ
   conv=>whnf
   apply su (α:=List Fnd) (P:=λl1=>l1.Nodup/\ ∀f,f∈l1 ↔ f∈l\/f∈ju w p.zone)
    (canon:=λl1=>stF w p.zone S ((bV L).map cK |>.eraseIdx i) (some (cK (p.zone.apex,.agg (aW p.zone)))) m l1)
   case h1 =>
    intro rest;have hPno:ju w p.zone=[]->l.Nodup/\ ∀f,f∈l ↔ f∈l\/f∈ju w p.zone:=λe=>⟨K.nodup,λf=>by rw[e];simp⟩
    have hPyes:ju w p.zone=[⟨4,p.zone.apex,p.zone.apex⟩]->(nu l ⟨4,p.zone.apex,p.zone.apex⟩).Nodup/\ ∀f,f∈nu l ⟨4,p.zone.apex,p.zone.apex⟩ ↔ f∈l\/f∈ju w p.zone:=λe=>⟨oV K.nodup,λf=>by rw[e,tM,List.mem_singleton]⟩
    cases ok with
    |false =>
     have e:ju w p.zone=[⟨4,p.zone.apex,p.zone.apex⟩]:=by rw[hB];rfl
     conv=>whnf
     refine⟨[100004,18,200023],_,_,oB l 4 p.zone.apex p.zone.apex,⟨⟨by kernel_rfl,by kernel_rfl⟩,by kernel_rfl,by kernel_rfl,by kernel_rfl⟩,?_⟩
     conv=>whnf
     exact ib (st1:=stF w p.zone S ((bV L).map cK |>.eraseIdx i) (some (cK (p.zone.apex,.agg (aW p.zone)))) m _) (aj.keep ⟨ab,ab,ab,ab,ab,ab,ab,trivial⟩ ⟨ab,ab,ab,ab,ab,ab,trivial⟩) (rest _ (hPyes e))
    |true =>
     conv=>whnf
     (refine⟨_,_,oz p.zone p.zone.apex (by omega) (λs hs=>by have:=(hfz.2 s hs).1;omega),?_⟩;conv=>whnf)
     (refine⟨_,_,LZ S (bS p.zone p.zone.apex) (by omega),?_⟩;conv=>whnf)
     cases he:(S==bS p.zone p.zone.apex)with
     |true =>
      have e:ju w p.zone=[]:=by rw[hB,he];rfl
      conv=>whnf
      exact ib (st1:=stF w p.zone S ((bV L).map cK |>.eraseIdx i) (some (cK (p.zone.apex,.agg (aW p.zone)))) m _) (aj.keep ⟨ab,ab,ab,ab,ab,ab,ab,trivial⟩ ⟨ab,ab,ab,ab,ab,ab,trivial⟩) (rest _ (hPno e))
     |false =>
      have e:ju w p.zone=[⟨4,p.zone.apex,p.zone.apex⟩]:=by rw[hB,he];rfl
      conv=>whnf
      refine⟨[100004,18,200023],_,_,oB l 4 p.zone.apex p.zone.apex,⟨⟨by kernel_rfl,by kernel_rfl⟩,by kernel_rfl,by kernel_rfl,by kernel_rfl⟩,?_⟩
      conv=>whnf
      exact ib (st1:=stF w p.zone S ((bV L).map cK |>.eraseIdx i) (some (cK (p.zone.apex,.agg (aW p.zone)))) m _) (aj.keep ⟨ab,ab,ab,ab,ab,ab,ab,trivial⟩ ⟨ab,ab,ab,ab,ab,ab,trivial⟩) (rest _ (hPyes e))
   case h2 =>
    rintro l1 ⟨hn1,hl1⟩;show kP _ _ _ _ _ _ _
    conv=>whnf
    refine ⟨Nat × List (Bs × List Int) × List Fnd, fun x => ⟨[(4, .ptr 100004 0), (5, .ptr 100005 0), (6, .d (.ptr [.str p.zone.apex])), (7, .d (.ptr (aW p.zone))), (8, .ptr 300008 0), (49, .d (.slice 1 (S.map aP))), (50, .d (.int .i64 ((S.map aP).length : Int))), (51, .d (.int .i64 x.1)), (23, .ptr 200023 0)],
        [(100004,.box (cW w 18)),(18,.smap (cG x.2.1)),(100005,.box [.omap 20]),(20,.kmap (dh x.2.2)),(300008,.box [wI p.zone.apex]),(200023,.iter ((bV L).map cK |>.eraseIdx i) (some (cK (p.zone.apex,.agg (aW p.zone)))))]⟩,
     λx=>x.1<=S.length/\kY w x.2.1/\x.2.2.Nodup/\ ∀f,f∈x.2.2 ↔ f∈l1\/f∈(S.take x.1).flatMap (mL w p.zone.apex),λx=>S.length-x.1,
     ⟨(0,m,l1),⟨Nat.zero_le _,K.cache,hn1,λf=>by simp⟩,aj.keep ⟨ab,ab,ab,ab,ab,ab,ab,ab,ab,trivial⟩ ⟨ab,ab,ab,ab,ab,ab,trivial⟩⟩,λ⟨k,m2,l2⟩ ⟨hk,hm2,hn2,hl2⟩=>?_⟩
    dsimp only at hk hm2 hn2 hl2 ⊢
    conv=>whnf
    refine ae (λh1=>?_) (λh1=>?_) <;> (rw[h1];conv=>whnf)
    . have hlt:k<S.length:=by simpa using h1
      obtain⟨s,hs⟩:∃s,S[k]? =some s:=⟨_,ag hlt⟩
      have hAl:=xT hF s;have hm3:=uI hm2 s;have hfs:∀{e y:Bool},(cT w s).isEmpty=e->((cT w s).any λn=> !bc w p.zone.apex n)=y->mL w p.zone.apex s=(if e=true then[⟨3,p.zone.apex,s⟩]else[])++(if y=true then[⟨1,p.zone.apex,s⟩]else[]):=λhe hy=>JI he hy
      refine⟨av k,aP s,aC hs,?_⟩
      conv=>whnf
      refine⟨[100005,20,300008,200023],_,_,si w m2 s hF hv hm2,⟨⟨by kernel_rfl,by kernel_rfl⟩,by kernel_rfl,by kernel_rfl,by kernel_rfl⟩,?_⟩;generalize kq w m2 s=m3 at *
      generalize cT w s=AD at *
      conv=>whnf
      apply su (α:=List Fnd) (P:=λl3=>l3.Nodup/\ ∀f,f∈l3 ↔ f∈l2\/f∈(if AD.isEmpty=true then[(⟨3,p.zone.apex,s⟩:Fnd)]else[]))
       (canon:=λl3=>stS w p.zone S k s AD ((bV L).map cK |>.eraseIdx i) (some (cK (p.zone.apex,.agg (aW p.zone)))) m3 l3)
      case h1 =>
       intro rest;refine ae (λh2=>?_) (λh2=>?_) <;> (rw[h2];conv=>whnf)
       . have he:AD.isEmpty=true:=by
          have h3:((AD.map bd).length:Int)=0:=by simpa using h2
          rw[ak]at h3;rw[List.isEmpty_iff_length_eq_zero];omega
         refine⟨[100004,18,200023],_,_,oB l2 3 s p.zone.apex,⟨⟨by kernel_rfl,by kernel_rfl⟩,by kernel_rfl,by kernel_rfl,by kernel_rfl⟩,?_⟩
         conv=>whnf
         exact ib (st1:=stS w p.zone S k s AD ((bV L).map cK |>.eraseIdx i) (some (cK (p.zone.apex,.agg (aW p.zone)))) m3 _) (aj.keep ⟨ab,ab,ab,ab,ab,ab,ab,ab,ab,ab,ab,trivial⟩ ⟨ab,ab,ab,ab,ab,ab,trivial⟩) (rest (nu l2 ⟨3,p.zone.apex,s⟩) ⟨oV hn2,λf=>by rw[tM,he,if_pos rfl,List.mem_singleton]⟩)
       . have he:AD.isEmpty=false:=by
          have h3:((AD.map bd).length:Int)≠0:=by first|exact beq_eq_false_iff_ne.1 h2|exact of_decide_eq_false h2
          cases AD with
          |nil=>exact absurd rfl h3
          |cons _ _=>rfl
         exact ib (st1:=stS w p.zone S k s AD ((bV L).map cK |>.eraseIdx i) (some (cK (p.zone.apex,.agg (aW p.zone)))) m3 _) (aj.keep ⟨ab,ab,ab,ab,ab,ab,ab,ab,ab,ab,ab,trivial⟩ ⟨ab,ab,ab,ab,ab,ab,trivial⟩) (rest l2 ⟨hn2,λf=>by rw[if_neg (λe=>by rw[he]at e;cases e)];simp⟩)
      case h2 =>
       rintro l3 ⟨hn3,hl3⟩;show kP _ _ _ _ _ _ _
       conv=>whnf
       (refine⟨_,Jd w m3 p.zone.apex AD hAl,rfl,?_⟩;conv=>whnf)
       cases hy:(AD.any λn=> !bc w p.zone.apex n)with
       |true =>
        conv=>whnf
        refine⟨[100004,18,200023],_,_,oB l3 1 s p.zone.apex,⟨⟨by kernel_rfl,by kernel_rfl⟩,by kernel_rfl,by kernel_rfl,by kernel_rfl⟩,?_⟩
        conv=>whnf
        refine⟨(k+1,m3,nu l3 ⟨1,p.zone.apex,s⟩),⟨hlt,hm3,oV hn3,λf=>?_⟩,by(show S.length-(k+1)<S.length-k;omega),aj.keep ⟨ab,ab,ab,ab,ab,ab,ab,⟨ao (by omega),rfl⟩,ab,trivial⟩ ⟨ab,ab,ab,ab,ab,ab,trivial⟩⟩;rw[tM,hl3,hl2,bg hs,List.flatMap_append,List.mem_append,List.flatMap_cons,List.flatMap_nil,List.append_nil,hfs rfl hy,List.mem_append,if_pos rfl,List.mem_singleton,or_assoc,or_assoc]
       |false =>
        conv=>whnf
        refine⟨(k+1,m3,l3),⟨hlt,hm3,hn3,λf=>?_⟩,by(show S.length-(k+1)<S.length-k;omega),aj.keep ⟨ab,ab,ab,ab,ab,ab,ab,⟨ao (by omega),rfl⟩,ab,trivial⟩ ⟨ab,ab,ab,ab,ab,ab,trivial⟩⟩;rw[hl3,hl2,bg hs,List.flatMap_append,List.mem_append,List.flatMap_cons,List.flatMap_nil,List.append_nil,hfs rfl hy,List.mem_append,if_neg (show ¬(false=true) by simp),or_assoc];simp
    . obtain rfl:k=S.length:=by simp at h1;omega
      rw[List.take_length]at hl2
      (refine⟨_,_,RI p.zone (by omega),?_⟩;conv=>whnf)
      refine⟨108,_,Bl (eQ (eI p.zone) p.zone.sets),[(4,.ptr 100004 0),(5,.ptr 100005 0),(6,.d (.ptr [.str p.zone.apex])),(8,.ptr 300008 0),(23,.ptr 200023 0),(72,.d (.fn 108 [] [.ptr (aW p.zone),.ptr [Jh p.zone]]))],
       List (Bs×List Int)×List Fnd,(m2,l2),λ(j:Nat) y=>[(100004,.box (cW w 18)),(18,.smap (cG y.1)),(100005,.box [.omap 20]),(20,.kmap (dh y.2)),(300008,.box [wI p.zone.apex]),(200023,.iter ((bV L).map cK |>.eraseIdx i) (some (cK (p.zone.apex,.agg (aW p.zone)))))],
       [100004,100005,300008,200023],λ(j:Nat) y=>kY w y.1/\y.2.Nodup/\ ∀f,f∈y.2 ↔ f∈l2\/f∈((p.zone.sets.filter (eI p.zone)).take j).flatMap λs=>lR w p.zone.apex s.set,
       aj.zero (aj.keep ⟨ab,ab,ab,ab,ab,ab,trivial⟩ ⟨ab,ab,ab,ab,ab,ab,trivial⟩),⟨rfl,Mp p.zone hvz (by omega),λk x k' hx=>?_,rfl,rfl⟩,⟨ah rfl,QM (by kernel_rfl),rfl,by kernel_rfl⟩,⟨hm2,hn2,λf=>by simp⟩,?_,?_⟩
      . obtain⟨s,_,rfl⟩:=List.mem_map.1 (aq hx.1);rfl
      . rintro j x j' ⟨m3,l3⟩ ⟨hx,rfl⟩ ⟨hm3,hn3,hl3⟩;dsimp only at hm3 hn3 hl3;obtain⟨s,hs,rfl⟩:∃s,(p.zone.sets.filter (eI p.zone))[j]? =some s/\x=[.agg (mV s.set)]:=by
         unfold eQ at hx;rw[aQ]at hx;cases h:(p.zone.sets.filter (eI p.zone))[j]? with
         |none=>rw[h]at hx;cases hx
         |some s=>rw[h]at hx;cases hx;exact⟨s,rfl,rfl⟩
        have hsm:=(List.mem_filter.1 (aq hs)).1;have hsd:=(hfz.2 s hsm).1;have hAl:=xT hF s.set.name;have hm4:=uI hm3 s.set.name;have hG:lR w p.zone.apex s.set=if (cT w s.set.name==List.map (λx:Datum=>x.n) s.set.data)=true then[]else[⟨2,p.zone.apex,s.set.name⟩]:=rfl
        have hfold:∀f,f∈((p.zone.sets.filter (eI p.zone)).take (j+1)).flatMap (λs=>lR w p.zone.apex s.set) ↔ f∈((p.zone.sets.filter (eI p.zone)).take j).flatMap (λs=>lR w p.zone.apex s.set)\/f∈lR w p.zone.apex s.set:=λf=>by
         rw[bg hs,List.flatMap_append,List.mem_append,List.flatMap_cons,List.flatMap_nil,List.append_nil]
        conv=>whnf
        (refine⟨(by kernel_rfl:jQ _=true),?_⟩;conv=>whnf)
        refine⟨[100005,20,300008,200023,14],_,_,si w m3 s.set.name hF hv hm3,⟨⟨by kernel_rfl,by kernel_rfl⟩,by kernel_rfl,by kernel_rfl,by kernel_rfl⟩,?_⟩;generalize kq w m3 s.set.name=m4 at *
        generalize cT w s.set.name=AD at *
        (repeat (refine⟨by kernel_rfl,?_⟩));conv=>whnf
        (refine⟨_,_,mR s.set (by omega),?_⟩;conv=>whnf)
        (repeat (refine⟨by kernel_rfl,?_⟩));conv=>whnf
        (refine⟨_,_,LY AD (List.map (λx:Datum=>x.n) s.set.data) (by omega),?_⟩;conv=>whnf)
        (repeat (refine⟨by kernel_rfl,?_⟩));conv=>whnf
        cases he:(AD==List.map (λx:Datum=>x.n) s.set.data)with
        |true =>
         rw[he,if_pos rfl]at hG
         conv=>whnf
         refine⟨(m4,l3),⟨aj.keep trivial ⟨⟨rfl,rfl⟩,⟨rfl,rfl⟩,⟨rfl,rfl⟩,⟨rfl,rfl⟩,⟨rfl,rfl⟩,⟨rfl,rfl⟩,trivial⟩,EV (by kernel_rfl)⟩,hm4,hn3,λf=>?_⟩;dsimp only;rw[hl3,hfold,hG];simp
        |false =>
         rw[he,if_neg (by simp)]at hG
         conv=>whnf
         refine⟨[100004,18,200023,14],_,_,oB l3 2 s.set.name p.zone.apex,⟨⟨by kernel_rfl,by kernel_rfl⟩,by kernel_rfl,by kernel_rfl,by kernel_rfl⟩,?_⟩
         conv=>whnf
         refine⟨(m4,nu l3 ⟨2,p.zone.apex,s.set.name⟩),⟨aj.keep trivial ⟨⟨rfl,rfl⟩,⟨rfl,rfl⟩,⟨rfl,rfl⟩,⟨rfl,rfl⟩,⟨rfl,rfl⟩,⟨rfl,rfl⟩,trivial⟩,EV (by kernel_rfl)⟩,hm4,oV hn3,λf=>?_⟩;dsimp only;rw[tM,hl3,hfold,hG,List.mem_singleton,or_assoc]
      . rintro j ⟨m3,l3⟩ hj ⟨hm3,hn3,hl3⟩;dsimp only at hm3 hn3 hl3;have hj:j=(eQ (eI p.zone) p.zone.sets).length:=hj;have hjl:(p.zone.sets.filter (eI p.zone)).take j=p.zone.sets.filter (eI p.zone):=by
         rw[hj];exact List.take_of_length_le (by unfold eQ;rw[ak];exact Nat.le_refl _)
        have hgl:p.zone.sets.filter (eI p.zone)=p.zone.sets.filter (iZ p.zone):=List.filter_congr λs hs=>RJ hvz hs
        rw[hjl,hgl]at hl3
        conv=>whnf
        refine⟨(L.eraseIdx i,some (cK (p.zone.apex,.agg (aW p.zone))),m3,l3),⟨λq hq=>K.sub q (List.mem_of_mem_eraseIdx hq),hm3,hn3,λf=>?_⟩,by(show(L.eraseIdx i).length<L.length;rw[List.length_eraseIdx,if_pos hpl];omega),aj.keep ⟨ab,ab,ab,trivial⟩ ⟨ab,ab,ab,ab,⟨?_,rfl⟩,trivial⟩⟩
        . dsimp only;rw[<- K.all f,hfl,hZ,hl3,hl2,hl1,List.mem_append,List.mem_append,or_assoc,or_assoc,or_assoc,or_assoc,or_assoc]
        . have e:((bV L).map cK).eraseIdx i=(bV (L.eraseIdx i)).map cK:=by
           unfold bV;rw[vC,vC]
          show some (Blk.iter (((bV L).map cK).eraseIdx i) _)=some (Blk.iter ((bV (L.eraseIdx i)).map cK) _)
          rw[e]
theorem He(a b:List Datum)(ha:a.length<=200000):NQ.Fn cx 25 [.slice 3 (a.map bt),.slice 3 (b.map bt)] (.d (.bool (decide (a=b)))) []:=by
 refine aA aO mixed Tryz.func25 (by kernel_rfl) rfl (ah rfl) ?_;conv=>whnf
 (refine ae (λh=>?_) (λh=>?_) <;> (rw[h];conv=>whnf))
 . exact af rfl (wH λe=>by subst e;simp at h)
 have h4:=EU h;refine⟨Nat,λk=>⟨[(0,.d (.slice 3 (a.map bt))),(1,.d (.slice 3 (b.map bt))),(5,.d (.int .i64 k))],[]⟩,λk=>k<=a.length/\ ∀i,i<k->a[i]? =b[i]?, λk=>a.length-k,⟨0,⟨by omega,λi hi=>by omega⟩,aj.keep ⟨ab,ab,ab,trivial⟩ trivial⟩,λk ⟨hk,hall⟩=>?_⟩
 conv=>whnf
 refine ae (λh1=>?_) (λh1=>?_) <;> (rw[h1];conv=>whnf)
 . have hlt:k<a.length:=by simp at h1;omega
   obtain⟨x,hx⟩:∃s,a[k]? =some s:=⟨_,ag hlt⟩
   obtain⟨y,hy⟩:∃s,b[k]? =some s:=⟨_,ag (by omega)⟩
   (refine⟨(by kernel_rfl:bf _ _=true),?_⟩;conv=>whnf)
   refine⟨av k,bt x,aC hx,?_⟩
   conv=>whnf
   refine⟨av k,bt y,aC hy,?_⟩
   conv=>whnf
   (refine ae (λh=>?_) (λh=>?_) <;> (rw[h];conv=>whnf))
   . refine af rfl (wH λe=>?_);subst e;rw[hx]at hy;cases hy;simp at h
   . refine⟨k+1,⟨by omega,AR hall ?_⟩,by(show a.length-(k+1)<a.length-k;omega),aj.keep ⟨ab,ab,⟨ao (by omega),rfl⟩,trivial⟩ trivial⟩;rw[hx,hy];simp at h;cases x;cases y;simp at h ⊢;exact⟨h.1,h.2.1,h.2.2⟩
 . obtain rfl:k=a.length:=by simp at h1;omega
   exact af rfl (Gf (yi h4 hall))
theorem tY(a b:List Fnd)(ha:a.length<=200000):NQ.Fn cx 17 [.slice 3 (a.map cg),.slice 3 (b.map cg)] (.d (.bool (decide (a=b)))) []:=by
 refine aA aO mixed Tryz.func17 (by kernel_rfl) rfl (ah rfl) ?_;conv=>whnf
 (refine ae (λh=>?_) (λh=>?_) <;> (rw[h];conv=>whnf))
 . exact af rfl (wH λe=>by subst e;simp at h)
 have h4:=EU h;refine⟨Nat,λk=>⟨[(0,.d (.slice 3 (a.map cg))),(1,.d (.slice 3 (b.map cg))),(5,.d (.int .i64 k))],[]⟩,λk=>k<=a.length/\ ∀i,i<k->a[i]? =b[i]?, λk=>a.length-k,⟨0,⟨by omega,λi hi=>by omega⟩,aj.keep ⟨ab,ab,ab,trivial⟩ trivial⟩,λk ⟨hk,hall⟩=>?_⟩
 conv=>whnf
 refine ae (λh1=>?_) (λh1=>?_) <;> (rw[h1];conv=>whnf)
 . have hlt:k<a.length:=by simp at h1;omega
   obtain⟨x,hx⟩:∃s,a[k]? =some s:=⟨_,ag hlt⟩
   obtain⟨y,hy⟩:∃s,b[k]? =some s:=⟨_,ag (by omega)⟩
   (refine⟨(by kernel_rfl:bf _ _=true),?_⟩;conv=>whnf)
   refine⟨av k,cg x,aC hx,?_⟩
   conv=>whnf
   refine⟨av k,cg y,aC hy,?_⟩
   conv=>whnf
   (refine ae (λh=>?_) (λh=>?_) <;> (rw[h];conv=>whnf))
   . refine af rfl (wH λe=>?_);subst e;rw[hx]at hy;cases hy;simp at h
   . refine⟨k+1,⟨by omega,AR hall ?_⟩,by(show a.length-(k+1)<a.length-k;omega),aj.keep ⟨ab,ab,⟨ao (by omega),rfl⟩,trivial⟩ trivial⟩;rw[hx,hy];simp at h;cases x;cases y;simp at h ⊢;exact⟨h.1,h.2.1,h.2.2⟩
 . obtain rfl:k=a.length:=by simp at h1;omega
   exact af rfl (Gf (yi h4 hall))
theorem KG(a b:List Int)(ha:a.length<=200000):NQ.Fn cx 18 [.slice 1 (a.map bd),.slice 1 (b.map bd)] (.d (.bool (decide (a=b)))) []:=by
 refine aA aO mixed Tryz.func18 (by kernel_rfl) rfl (ah rfl) ?_;conv=>whnf
 (refine ae (λh=>?_) (λh=>?_) <;> (rw[h];conv=>whnf))
 . exact af rfl (wH λe=>by subst e;simp at h)
 have h4:=EU h;refine⟨Nat,λk=>⟨[(0,.d (.slice 1 (a.map bd))),(1,.d (.slice 1 (b.map bd))),(5,.d (.int .i64 k))],[]⟩,λk=>k<=a.length/\ ∀i,i<k->a[i]? =b[i]?, λk=>a.length-k,⟨0,⟨by omega,λi hi=>by omega⟩,aj.keep ⟨ab,ab,ab,trivial⟩ trivial⟩,λk ⟨hk,hall⟩=>?_⟩
 conv=>whnf
 refine ae (λh1=>?_) (λh1=>?_) <;> (rw[h1];conv=>whnf)
 . have hlt:k<a.length:=by simp at h1;omega
   obtain⟨x,hx⟩:∃s,a[k]? =some s:=⟨_,ag hlt⟩
   obtain⟨y,hy⟩:∃s,b[k]? =some s:=⟨_,ag (by omega)⟩
   (refine⟨(by kernel_rfl:bf _ _=true),?_⟩;conv=>whnf)
   refine⟨av k,bd x,aC hx,?_⟩
   conv=>whnf
   refine⟨av k,bd y,aC hy,?_⟩
   conv=>whnf
   (refine ae (λh=>?_) (λh=>?_) <;> (rw[h];conv=>whnf))
   . refine af rfl (wH λe=>?_);subst e;rw[hx]at hy;cases hy;simp at h
   . refine⟨k+1,⟨by omega,AR hall ?_⟩,by(show a.length-(k+1)<a.length-k;omega),aj.keep ⟨ab,ab,⟨ao (by omega),rfl⟩,trivial⟩ trivial⟩;rw[hx,hy];simp at h;rw[h]
 . obtain rfl:k=a.length:=by simp at h1;omega
   exact af rfl (Gf (yi h4 hall))
end Go.Proofs.YtjapjahfllomkaaGreatDoor
namespace NP
open NQ Go
def wq:Option (Nat×ai)->Bs
 |some x=>x.2.zone.apex
 |none=>[]
theorem BM{zs:List ai}(hz:∀p∈zs,au p.zone.apex=true){b:Option (Nat×ai)}(h:iS zs b):(wq b==[])=b.isNone:=by
 cases b with
 |none=>rfl
 |some x =>
  have:=yT (hz x.2 (aq (h x rfl)));show(x.2.zone.apex==[])=false
  rw[beq_eq_false_iff_ne];exact this
theorem Od(a:Bs)(p:ai):ig (-1) a a p=((p.zone.apex != a)&&aH a p.zone.apex):=by
 unfold ig;rw[show(decide ((-1:Int)>=0))=false from rfl,gW,dK,Bool.not_or,oL];rfl
theorem Rq{z:aF}(hv:aY z=true)(q:aV):match z.sets.find? (is q)with|some s=> ∃k:Nat,atI z.sets q=(k:Int)/\z.sets[k]? =some s/\s∈z.sets|none=>atI z.sets q<0:=by
 have hR:=FV hv;cases hf:z.sets.find? (is q)with
 |none =>
  have h1:cP z.sets q=false:=by rw[<- tv,hf];rfl
  have:=nA z.sets q;rw[h1]at this;exact of_decide_eq_true this
 |some s =>
  have h1:cP z.sets q=true:=by rw[<- tv,hf];rfl
  obtain⟨k,s',hk,hs,hp⟩:=zj h1;have hm:=List.mem_of_find?_eq_some hf;have hp2:s.place=q.place:=(lK q s).1 (List.find?_some hf);have:s' =s:=RP.uniq hR (aq hs) hm (hp.trans hp2.symm);subst this;exact⟨k,hk,hs,hm⟩
def setOf(zs:List ai)(b:Bs)(q:aV):Option (List Datum):=match aR zs b with|none=>none|some x=>(x.2.zone.sets.find? (is q)).map λs=>s.set.data
theorem rJ(zs:List ai)(a:Bs):cB zs a=match (if a=[46]then some a else cR zs a)with|none=>none|some b=>setOf zs b ⟨a,2⟩:=rfl
end NP
namespace Go.Proofs.YtjapjahfllomkaaGreatDoor
open NQ Go NP Go.RowKit
theorem IY(w:ay)(a:Bs)(ha:au a=true)(hz:∀p∈w.zones,au p.zone.apex=true)(hl:w.zones.length<=100000) :
 NQ.Fn cx 83 [.agg (ba w),.str a] (.tuple [.d (.str ((cR w.zones a).getD [])),.d (.bool (cR w.zones a).isSome)]) []:=by
 have hab:=IZ hz ha;have hn:=cz ha;have hres:(wq (fq w.zones (-1) a a),(wq (fq w.zones (-1) a a) != []))=((cR w.zones a).getD [],(cR w.zones a).isSome):=by
  rw[<- hab];have:=BM hz (Ef w.zones (-1) a a);unfold bne;rw[this];cases fq w.zones (-1) a a <;> rfl
 refine aA aO mixed Tryz.func83 (by kernel_rfl) rfl (ah rfl) ?_;conv=>whnf
 refine⟨Nat×Option (Nat×ai),λx=>⟨[(1,.d (.str a)),(2,.ptr 2 0),(6,.d (.str (wq x.2))),(7,.d (.int .i64 x.1))],[(2,.box ((ba w).map .d))]⟩,
  λx=>x.1<=w.zones.length/\iS w.zones x.2/\fE (ig (-1) a a) zC x.1 (w.zones.drop x.1) x.2=fq w.zones (-1) a a,λx=>w.zones.length-x.1,
  ⟨(0,none),⟨Nat.zero_le _,(λx hx=>by cases hx),rfl⟩,aj.keep ⟨ab,ab,ab,ab,trivial⟩ ⟨ab,trivial⟩⟩,λ⟨k,b⟩ ⟨hk,hb,hinv⟩=>?_⟩
 dsimp only at hk hb hinv ⊢
 conv=>whnf
 refine ae (λh1=>?_) (λh1=>?_) <;> (rw[h1];conv=>whnf)
 . have hlt:k<w.zones.length:=by simpa using h1
   obtain⟨p,hp⟩:∃p,w.zones[k]? =some p:=⟨_,ag hlt⟩
   have hpv:=hz p (aq hp);rw[BN hp]at hinv;have next:∀b',b' =bO (ig (-1) a a) zC k p b->(k+1<=w.zones.length/\iS w.zones b' /\fE (ig (-1) a a) zC (k+1) (w.zones.drop (k+1)) b' =fq w.zones (-1) a a):=λb' e=>by
    rw[e];exact⟨hlt,hb.step hp,hinv⟩
   refine⟨av k,aN p,aC hp,?_⟩
   conv=>whnf
   have hok:=Od a p;unfold bne at hok;cases h2:(p.zone.apex==a)with
   |true =>
    rw[h2]at hok
    conv=>whnf
    exact⟨(k+1,b),next _ (by unfold bO;rw[if_neg (by rw[hok];simp)]),by(show w.zones.length-(k+1)<w.zones.length-k;omega),aj.keep ⟨ab,ab,ab,⟨ao (by omega),rfl⟩,trivial⟩ ⟨ab,trivial⟩⟩
   |false =>
    rw[h2]at hok
    conv=>whnf
    (refine⟨_,_,ux a p.zone.apex hn (cz hpv),?_⟩;conv=>whnf)
    cases h3:aH a p.zone.apex with
    |false =>
     conv=>whnf
     exact⟨(k+1,b),next _ (by unfold bO;rw[if_neg (by rw[hok,h3];simp)]),by(show w.zones.length-(k+1)<w.zones.length-k;omega),aj.keep ⟨ab,ab,ab,⟨ao (by omega),rfl⟩,trivial⟩ ⟨ab,trivial⟩⟩
    |true =>
     have hokk:ig (-1) a a p=true:=by rw[hok,h3];rfl
     conv=>whnf
     cases b with
     |none =>
      conv=>whnf
      exact⟨(k+1,some (k,p)),next _ (by unfold bO;rw[if_pos hokk]),by(show w.zones.length-(k+1)<w.zones.length-k;omega),aj.keep ⟨ab,ab,ab,⟨ao (by omega),rfl⟩,trivial⟩ ⟨ab,trivial⟩⟩
     |some x =>
      have hx:=hb x rfl;have hxv:=hz x.2 (aq hx);have hne:((wq (some x))==[])=false:=BM hz hb;rw[hne]
      conv=>whnf
      (refine⟨_,_,DB p.zone.apex (by have:=cz hpv;omega),?_⟩;conv=>whnf)
      (refine⟨_,_,DB (wq (some x)) (by have:=cz hxv;show x.2.zone.apex.length<=_;omega),?_⟩;conv=>whnf)
      refine ae (λg2=>?_) (λg2=>?_) <;> (rw[g2];conv=>whnf)
      . exact⟨(k+1,some (k,p)),next _ (by
         unfold bO;rw[if_pos hokk];dsimp only;rw[if_pos (by have:=of_decide_eq_true g2;rw[ak,ak]at this;exact decide_eq_true this)]),by(show w.zones.length-(k+1)<w.zones.length-k;omega),aj.keep ⟨ab,ab,ab,⟨ao (by omega),rfl⟩,trivial⟩ ⟨ab,trivial⟩⟩
      . exact⟨(k+1,some x),next _ (by
         unfold bO;rw[if_pos hokk];dsimp only;rw[if_neg (by have:=of_decide_eq_false g2;rw[ak,ak]at this;intro h;exact this (of_decide_eq_true h))]),by(show w.zones.length-(k+1)<w.zones.length-k;omega),aj.keep ⟨ab,ab,ab,⟨ao (by omega),rfl⟩,trivial⟩ ⟨ab,trivial⟩⟩
 . obtain rfl:k=w.zones.length:=by simp at h1;omega
   refine af rfl ?_;have hb' :b=fq w.zones (-1) a a:=by rw[<- hinv,List.drop_length];rfl
   rw[hb'];have e1:=congrArg Prod.fst hres;have e2:=congrArg Prod.snd hres;dsimp only at e1 e2;rw[<- e1, <- e2];rfl
def Ur:Nat->List Nat
 |7=>[55555,66666]
 |8=>[55555]
 |_=>[]
@[reducible] def Ql (w:ay) (a b:Bs):St:=⟨[(1,.d (.str a)),(2,.ptr 2 0),(6,.d (.str b))],[(2,.box ((ba w).map .d))]⟩
@[reducible] def TJ (w:ay) (a:Bs) (z:aF):St:=⟨[(1,.d (.str a)),(2,.ptr 2 0),(9,.ptr 9 0)],[(2,.box ((ba w).map .d)),(9,.box ((aW z).map .d))]⟩
theorem JA(w:ay)(a:Bs)(hF:cw w)(hv:aK w=true)(ha:au a=true)(hc:(aR w.zones a).isSome=true) :
 NQ.Fn cx 34 [.agg (ba w),.str a] (.tuple [.d (.slice 3 (((cB w.zones a).getD []).map bt)),.d (.bool (cB w.zones a).isSome)]) []:=by
 have hz:∀p∈w.zones,aY p.zone=true:=λp hp=>(bE hv p hp).1
 have hzn:∀p∈w.zones,au p.zone.apex=true:=λp hp=>(dq.1 (hz p hp)).ord.apex
 have hzl:=hF.zones;have hab:=wU w.zones ha;refine cH Ur aO mixed Tryz.func34 (by kernel_rfl) rfl (ah rfl) ?_
 conv=>whnf
 apply su (α:=Bs) (P:=λb=>(aR w.zones b).isSome=true/\cB w.zones a=setOf w.zones b ⟨a,2⟩) (canon:=Ql w a)
 case h1 =>
  intro rest;cases h2:(a==[46])with
  |true =>
   have e:a=[46]:=by simpa using h2
   conv=>whnf
   exact ib (st1:=Ql w a a) (aj.keep ⟨ab,ab,ab,trivial⟩ ⟨ab,trivial⟩) (rest a ⟨hc,by rw[rJ,if_pos e]⟩)
  |false =>
   have e:¬a=[46]:=by simpa using h2
   conv=>whnf
   (refine⟨_,_,IY w a ha hzn (by omega),?_⟩;conv=>whnf)
   cases hb:cR w.zones a with
   |none =>
    have e2:cB w.zones a=none:=by rw[rJ,if_neg e,hb]
    rw[e2]
    conv=>whnf
    exact af rfl rfl
   |some b =>
    rw[hb]at hab
    conv=>whnf
    exact ib (st1:=Ql w a b) (aj.keep ⟨ab,ab,ab,trivial⟩ ⟨ab,trivial⟩) (rest b ⟨hab.1,by rw[rJ,if_neg e,hb]⟩)
 case h2 =>
  rintro b ⟨hbc,hdel⟩;rw[hdel];cases hx:aR w.zones b with
  |none=>rw[hx]at hbc;cases hbc
  |some x =>
   have hxz:=tg w.zones b x hx;have hxm:=aq hxz;have hxv:=hz x.2 hxm;have hset:setOf w.zones b ⟨a,2⟩=(x.2.zone.sets.find? (is ⟨a,2⟩)).map λs=>s.set.data:=by unfold setOf;rw[hx]
   rw[hset];have hat:=Rq hxv ⟨a,2⟩;have fC:=yd w.zones b hz (by omega);rw[hx]at fC;have fA:=Dl x.2.zone ⟨a,2⟩ (by have:=(dv (hF.few x.2 hxm)).1;omega);show kP _ _ _ _ _ _ _
   conv=>whnf
   (refine⟨(by kernel_rfl:jQ _=true),?_⟩;conv=>whnf)
   apply su (α:=Unit) (P:=λ_=>True) (canon:=λ_=>TJ w a x.2.zone)
   case h1 =>
    intro rest2
    repeat' (first
     |(exact ib (st1:=TJ w a x.2.zone) (aj.keep ⟨ab,ab,ab,trivial⟩ ⟨ab,ab,trivial⟩) (rest2 () trivial))
     |(refine⟨_,_,fC,?_⟩;conv=>whnf)
     |(refine⟨av x.1,aN x.2,aC hxz,?_⟩;conv=>whnf)
     |(refine⟨by kernel_rfl,?_⟩;conv=>whnf)
     |(refine⟨?_,?_⟩ <;> (conv=>whnf))
     |fail)
   case h2 =>
    rintro _ _;show kP _ _ _ _ _ _ _
    conv=>whnf
    (refine⟨_,_,fA,?_⟩;conv=>whnf)
    cases hf:x.2.zone.sets.find? (is ⟨a,2⟩)with
    |none =>
     rw[hf]at hat;refine ae (λh3=>?_) (λh3=>?_) <;> (rw[h3];conv=>whnf)
     . exact af rfl rfl
     . exact absurd hat (of_decide_eq_false h3)
    |some s =>
     rw[hf]at hat;obtain⟨k,hk,hs,_⟩:=hat;refine ae (λh3=>?_) (λh3=>?_) <;> (rw[h3];conv=>whnf)
     . have:=of_decide_eq_true h3;omega
     . refine⟨by omega,az s,by rw[hk,Int.toNat_natCast];exact aC hs,?_⟩
       conv=>whnf
       exact af rfl rfl
theorem Hh(w:ay)(n:Int)(a:Bs)(hF:cw w)(hv:aK w=true):NQ.Fn cx 24 [.agg (ba w),.int .i64 n,.str a] (.d (.bool (bc w a n))) []:=by
 have hzl:=hF.zones;refine aA aO mixed Tryz.func24 (by kernel_rfl) rfl (ah rfl) ?_;conv=>whnf
 (refine⟨_,_,ED w.hosts n (by have:=hF.hosts;omega),?_⟩;conv=>whnf)
 refine⟨Nat,λk=>⟨[(2,.d (.str a)),(3,.ptr 3 0),(7,.d (.int .i64 (cN w.hosts n))),(8,.d (.int .i64 k))],[(3,.box ((ba w).map .d))]⟩,λk=>k<=w.zones.length/\(w.zones.take k).any (λp=>(p.zone.apex==a)&&(addrOf w.hosts p.host==n))=false,λk=>w.zones.length-k,
  ⟨0,⟨Nat.zero_le _,rfl⟩,aj.keep ⟨ab,ab,ab,ab,trivial⟩ ⟨ab,trivial⟩⟩,λk ⟨hk,hno⟩=>?_⟩
 dsimp only at hk hno ⊢
 conv=>whnf
 refine ae (λh1=>?_) (λh1=>?_) <;> (rw[h1];conv=>whnf)
 . have hlt:k<w.zones.length:=by simpa using h1
   obtain⟨p,hp⟩:∃p,w.zones[k]? =some p:=⟨_,ag hlt⟩
   have hpm:=aq hp;have hha:=qM hv hpm n;have on:((p.zone.apex==a)&&(addrOf w.hosts p.host==n))=false->(w.zones.take (k+1)).any (λp=>(p.zone.apex==a)&&(addrOf w.hosts p.host==n))=false:=λe=>by
    rw[bg hp,List.any_append,hno,List.any_cons,List.any_nil,e];rfl
   refine⟨av k,aN p,aC hp,?_⟩
   conv=>whnf
   cases h2:(p.host==cN w.hosts n)with
   |false =>
    conv=>whnf
    exact⟨k+1,⟨hlt,on (by rw[<- hha,h2,gV])⟩,by(show w.zones.length-(k+1)<w.zones.length-k;omega),aj.keep ⟨ab,ab,ab,⟨ao (by omega),rfl⟩,trivial⟩ ⟨ab,trivial⟩⟩
   |true =>
    conv=>whnf
    refine⟨av k,aN p,aC hp,?_⟩
    conv=>whnf
    cases h3:(p.zone.apex==a)with
    |false =>
     conv=>whnf
     exact⟨k+1,⟨hlt,on (by rw[h3,gW])⟩,by(show w.zones.length-(k+1)<w.zones.length-k;omega),aj.keep ⟨ab,ab,ab,⟨ao (by omega),rfl⟩,trivial⟩ ⟨ab,trivial⟩⟩
    |true =>
     conv=>whnf
     refine af rfl ?_;have:bc w a n=true:=by
      unfold bc;rw[List.any_eq_true];exact⟨p,hpm,by rw[h3, <- hha,h2];rfl⟩
     rw[this];rfl
 . obtain rfl:k=w.zones.length:=by simp at h1;omega
   refine af rfl ?_;rw[List.take_length]at hno;have:bc w a n=false:=hno;rw[this];rfl
end Go.Proofs.YtjapjahfllomkaaGreatDoor
namespace NP
open NQ Go
end NP
namespace Go.Proofs.YtjapjahfllomkaaGreatDoor
open NQ Go NP Go.RowKit
def hK(l:List Fnd)(fl:Bool):List (Nat×Blk):=[(300,.row 47 3 (l.map cg) fl)]
end Go.Proofs.YtjapjahfllomkaaGreatDoor
namespace NP
open NQ Go
def ij(w:ay):List Fnd×Int:=if aK w=true then(fp w,0)else([],1)
end NP
namespace Go.Proofs.YtjapjahfllomkaaGreatDoor
open NQ Go NP Go.RowKit
theorem eV(w:ay)(hF:cw w)(hz:w.zones.length<=100):NQ.Fn cx 13 [.agg (ba w)] (.tuple [.d (.slice 3 ((ij w).1.map cg)),.d (.int .i64 (ij w).2)]) []:=by
 unfold ij;cases hv:aK w with
 |true=>rw[if_pos rfl];exact Ep w hF hv hz
 |false =>
  have fV:=rj w hF;rw[hv]at fV;rw[if_neg (by simp)];refine aA aO mixed Tryz.func13 (by kernel_rfl) rfl (ah rfl) ?_;conv=>whnf
  (refine⟨_,_,fV,?_⟩;conv=>whnf)
  exact af rfl rfl
end Go.Proofs.YtjapjahfllomkaaGreatDoor
namespace NP
open NQ Go
def uZ(n:Bs)(t:Int)(d:Datum):Signed:=⟨⟨n,t,60,[d]⟩,[]⟩
def aNs:Bs:=[97,46,110,115]
def Uj:aF:=⟨[46],[uZ [46] 2 ⟨aNs,0,0⟩,uZ [46] 4 ⟨[],1,60⟩,uZ [110,115] 2 ⟨aNs,0,0⟩,uZ aNs 1 ⟨[],1,0⟩]⟩
def nsL(a:Int):aF:=⟨[110,115],[uZ [110,115] 2 ⟨aNs,0,0⟩,uZ [110,115] 4 ⟨[],1,60⟩,uZ aNs 1 ⟨[],a,0⟩]⟩
def exL(a h:Int):ay:=⟨[⟨aNs,1,0⟩,⟨[98,46,110,115],5,0⟩],[⟨0,Uj⟩,⟨h,nsL a⟩],⟨[46],6,60,[⟨[],1,1⟩]⟩,[1]⟩
def exN:ay:=⟨[],[],⟨[],0,0,[]⟩,[]⟩
theorem pC(a h:Int):cw (exL a h):=⟨(by show 2<=1000;omega),(by show 2<=1000;omega),(by show 1<=1000;omega),λp hp=>by
 rcases List.mem_cons.1 hp with rfl|hp
 . kernel_rfl
 . rcases List.mem_cons.1 hp with rfl|hp
   . kernel_rfl
   . cases hp⟩
theorem Rz:cw exN:=⟨by decide,by decide,by decide,λp hp=>by cases hp⟩
theorem ym{w:ay}(hF:cw w)(hv:aK w=true){l:List Fnd}(h:nc (Ag w)=l):ij w=(l,0):=by
 unfold ij;rw[if_pos hv, <- PW hF hv,h]
theorem Th:aK (exL 1 0)=true:=by kernel_rfl
theorem Ti:aK (exL 1 1)=true:=by kernel_rfl
theorem Tj:aK (exL 2 0)=true:=by kernel_rfl
theorem Tb:ij (exL 1 0)=([],0):=ym (pC 1 0) Th (by kernel_rfl)
theorem Tc:ij (exL 1 1)=([⟨1,[110,115],aNs⟩],0):=ym (pC 1 1) Ti (by kernel_rfl)
theorem Td:ij (exL 2 0)=([⟨1,[46],aNs⟩,⟨1,[110,115],aNs⟩,⟨2,[46],aNs⟩],0):=ym (pC 2 0) Tj (by kernel_rfl)
theorem Te:im (exL 1 0) [110,115]=([0],0):=by kernel_rfl
theorem Tf:im (exL 1 1) [110,115]=([],0):=by kernel_rfl
theorem Tg:im (exL 1 0) [120]=([],4):=by kernel_rfl
theorem TX:ij exN=([],1):=by kernel_rfl
end NP
namespace Go.Proofs.YtjapjahfllomkaaGreatDoor
open NQ Go NP Go.RowKit
noncomputable def OO:Cx:={cx with bld:=[17]}
theorem UA:bo OO:=aO
theorem Sc:OO.P.follows .mixedOrders=true:=mixed
noncomputable def OP:Cx:={cx with bld:=[12,18,22,30]}
theorem UB:bo OP:=aO
theorem Sd:OP.P.follows .mixedOrders=true:=mixed
noncomputable def OQ:Cx:={cx with bld:=[54,58,103]}
theorem UC:bo OQ:=aO
theorem Se:OQ.P.follows .mixedOrders=true:=mixed
theorem kR(n:Bs)(t:Int)(s:Bs)(x y:Int):NQ.Fn cx 97 [.str n,.int .i64 t,.str s,.int .i64 x,.int .i64 y] (.agg ((az (uZ n t ⟨s,x,y⟩)).map .d)) []:=by
 show NQ.Fn OO _ _ _ _
 refine cH (λ_=>[]) UA Sc Tryz.func97 (by kernel_rfl) rfl (ah rfl) ?_
 conv=>whnf
 exact af rfl rfl
set_option maxHeartbeats 4000000 in
theorem Ej(a:Int)(b:Bool):NQ.Fn cx 41 [.int .i64 a,.bool b] (.agg ((ba (exL a (if b=true then 0 else 1))).map .d)) []:=by
 show NQ.Fn OP _ _ _ _
 refine cH (fun|6=>[22,27,30]|_=>[]) UB Sd Tryz.func41 (by kernel_rfl) rfl (ah rfl) ?_
 conv=>whnf
 (refine⟨_,_,kR [46] 2 aNs 0 0,?_⟩;conv=>whnf)
 (refine⟨_,_,kR [46] 4 [] 1 60,?_⟩;conv=>whnf)
 (refine⟨_,_,kR [110,115] 2 aNs 0 0,?_⟩;conv=>whnf)
 (refine⟨_,_,kR aNs 1 [] 1 0,?_⟩;conv=>whnf)
 (refine⟨_,_,kR [110,115] 2 aNs 0 0,?_⟩;conv=>whnf)
 (refine⟨_,_,kR [110,115] 4 [] 1 60,?_⟩;conv=>whnf)
 (refine⟨_,_,kR aNs 1 [] a 0,?_⟩;conv=>whnf)
 (refine⟨(by kernel_rfl:bf _ _=true),?_⟩;conv=>whnf)
 (refine⟨_,_,kR [46] 6 [] 1 1,?_⟩;conv=>whnf)
 cases b
 . conv=>whnf
   exact af (by rfl) (by rfl)
 . conv=>whnf
   refine⟨by omega,(by show 1<2;omega),?_⟩
   conv=>whnf
   refine⟨_,rfl,?_⟩
   conv=>whnf
   exact af (by rfl) (by rfl)
theorem Bb(a h:Int)(b:Bool)(e:h=(if b=true then 0 else 1)):NQ.Fn cx 41 [.int .i64 a,.bool b] (.agg ((ba (exL a h)).map .d)) []:=by
 subst e;exact Ej a b
set_option maxHeartbeats 4000000 in
theorem qJ:NQ.Fn cx 11 [] (.d (.bool true)) []:=by
 have hF1:=pC 1 0;have hF2:=pC 1 1;have hF3:=pC 2 0;have e1:=Bb 1 0 true rfl;have e2:=Bb 1 1 false rfl;have e3:=Bb 2 0 true rfl;have f1:=eV (exL 1 0) hF1 (by show 2<=100;omega);have f2:=eV (exL 1 1) hF2 (by show 2<=100;omega);have f3:=eV (exL 2 0) hF3 (by show 2<=100;omega);have f4:=po (exL 1 0) [110,115] hF1;have f5:=po (exL 1 1) [110,115] hF2;have f6:=po (exL 1 0) [120] hF1;have f7:=eV exN Rz (by show 0<=100;omega);rw[Tb]at f1;rw[Tc]at f2;rw[Td]at f3;rw[Te]at f4;rw[Tf]at f5;rw[Tg]at f6;rw[TX]at f7;have f8:=tY [⟨1,[110,115],aNs⟩] [⟨1,[110,115],aNs⟩] (by show 1<=200000;omega)
 have f9:=tY [⟨1,[46],aNs⟩,⟨1,[110,115],aNs⟩,⟨2,[46],aNs⟩] [⟨1,[46],aNs⟩,⟨1,[110,115],aNs⟩,⟨2,[46],aNs⟩] (by show 3<=200000;omega);have f10:=KG [0] [0] (by show 1<=200000;omega);rw[decide_eq_true rfl]at f8 f9 f10;show NQ.Fn OQ _ _ _ _
 refine cH (λ_=>[]) UC Se Tryz.func11 (by kernel_rfl) rfl (ah rfl) ?_
 conv=>whnf
 (refine⟨_,_,e1,?_⟩;conv=>whnf)
 (refine⟨_,_,f1,?_⟩;conv=>whnf)
 (refine⟨_,_,e2,?_⟩;conv=>whnf)
 (refine⟨_,_,f2,?_⟩;conv=>whnf)
 (refine⟨_,_,e3,?_⟩;conv=>whnf)
 (refine⟨_,_,f3,?_⟩;conv=>whnf)
 (refine⟨_,_,e1,?_⟩;conv=>whnf)
 (refine⟨_,_,f4,?_⟩;conv=>whnf)
 (refine⟨_,_,e2,?_⟩;conv=>whnf)
 (refine⟨_,_,f5,?_⟩;conv=>whnf)
 (refine⟨_,_,e1,?_⟩;conv=>whnf)
 (refine⟨_,_,f6,?_⟩;conv=>whnf)
 (refine⟨_,_,f7,?_⟩;conv=>whnf)
 (refine⟨_,_,f8,?_⟩;conv=>whnf)
 (refine⟨_,_,f9,?_⟩;conv=>whnf)
 (refine⟨_,_,f10,?_⟩;conv=>whnf)
 exact af rfl rfl
end Go.Proofs.YtjapjahfllomkaaGreatDoor
namespace NP
open NQ Go
def Bx(w:ay)(n:Int)(a:Bs):Bool:=((mF w n ⟨a,4⟩).2==0)&&((mF w n ⟨a,4⟩).1.kind==1)
theorem KN{w:ay}(hF:cw w)(hv:aK w=true){a:Bs}(ha:au a=true)(n:Int):Bx w n a=bc w a n:=by
 unfold Bx;rw[SN hv (xI ha) hF];by_cases hk:cN w.hosts n<0
 . rw[if_pos hk];have:bc w a n=false:=by
    unfold bc;rw[List.any_eq_false];intro p hp;rw[<- qM hv hp];obtain⟨_,h0,_⟩:=bE hv p hp;simp only[aB,beq_iff_eq];rintro⟨_,e⟩;omega
   rw[this];rfl
 . rw[if_neg hk];have h0:0<=cN w.hosts n:=by omega
   have:=Jy hF hv ha h0;dsimp only;rw[this];show(true&&_)=_
   rw[dC];unfold bc;rw[Bool.eq_iff_iff,List.any_eq_true,List.any_eq_true];exact exists_congr λp=>and_congr_right λhp=>by rw[qM hv hp]
theorem tr{w:ay}(h:iw w=true):cw w/\w.zones.length<=20:=⟨(yk h).1,(yk h).2.2.1⟩
end NP
namespace Go.Proofs.YtjapjahfllomkaaGreatDoor
open NQ Go NP Go.RowKit
abbrev yV:Prop:=NQ.Fn cx 11 [] (.d (.bool true)) []
theorem od(w:ay):NQ.Fn cx 19 [.agg (ba w)] (.d (.bool (iw w&&aK w))) []:=by
 refine aA aO mixed Tryz.func19 (by kernel_rfl) rfl (ah rfl) ?_;conv=>whnf
 (refine⟨_,_,RB w,?_⟩;conv=>whnf)
 cases hf:iw w with
 |false =>
  conv=>whnf
  exact af rfl rfl
 |true =>
  have hF:=(yk hf).1
  conv=>whnf
  (refine⟨_,_,Lh w hF,?_⟩;conv=>whnf)
  exact af rfl rfl
theorem vS(w:ay)(n:Int)(a:Bs)(hF:cw w)(hv:aK w=true)(ha:au a=true):NQ.Fn cx 33 [.agg (ba w),.int .i64 n,.str a] (.d (.bool (bc w a n))) []:=by
 rw[<- KN hF hv ha];have fA:=SO w n ⟨a,4⟩ hF;unfold Bx;refine aA aO mixed Tryz.func33 (by kernel_rfl) rfl (ah rfl) ?_;conv=>whnf
 (refine⟨_,_,fA,?_⟩;conv=>whnf)
 cases h1:((mF w n ⟨a,4⟩).2==0)with
 |false =>
  conv=>whnf
  exact af rfl rfl
 |true =>
  conv=>whnf
  exact af rfl rfl
set_option maxHeartbeats 1000000 in
theorem rq(w:ay)(n:Bs)(hF:cw w):NQ.Fn cx 22 [.agg (ba w),.str n] (.tuple [.d (.slice 3 ((bD w n).map bt)),.d (.bool (!(bD w n==[])))]) []:=by
 have hsm:=nZ hF ⟨n,1⟩;have hW:bD w n=iE (dA w ⟨n,1⟩):=rfl;have fT:=yS w ⟨n,1⟩ hF;rw[hW];generalize dA w ⟨n,1⟩=T at *
 obtain⟨A,e⟩:=T;obtain⟨kd,sets,ct⟩:=A;dsimp only at fT hsm;have hlen:sets.length<=100000:=hsm.len;have go:e=0->(kd=1\/kd=2)->iE (⟨kd,sets,ct⟩,e)=iu sets:=λh1 h2=>lG ⟨h1,h2⟩
 have no:¬(e=0/\(kd=1\/kd=2))->iE (⟨kd,sets,ct⟩,e)=[]:=λh=>rr h
 refine cH (fun|4=>[55555]|_=>[]) aO mixed Tryz.func22 (by kernel_rfl) rfl (ah rfl) ?_
 conv=>whnf
 (refine⟨_,_,fT,?_⟩;conv=>whnf)
 apply su (α:=Unit) (P:=λ_=>iE (⟨kd,sets,ct⟩,e)=iu sets) (canon:=λ_=>⟨[(6,.ptr 6 0)],[(6,.box ((ia ⟨kd,sets,ct⟩).map .d))]⟩)
 case h1 =>
  intro rest;refine ae (λh1=>?_) (λh1=>?_) <;> (rw[h1];conv=>whnf)
  . have e0:e≠0:=by simpa using h1
    rw[no λh=>e0 h.1];exact af rfl rfl
  . have e0:e=0:=by simpa using h1
    refine ae (λh2=>?_) (λh2=>?_) <;> (rw[h2];conv=>whnf)
    . have k1:kd≠1:=by simpa using h2
      refine ae (λh3=>?_) (λh3=>?_) <;> (rw[h3];conv=>whnf)
      . have k2:kd≠2:=by simpa using h3
        rw[no λh=>h.2.elim k1 k2];exact af rfl rfl
      . have k2:kd=2:=by simpa using h3
        exact ib (st1:=⟨[(6,.ptr 6 0)],[(6,.box ((ia ⟨kd,sets,ct⟩).map .d))]⟩) (aj.keep ⟨ab,trivial⟩ ⟨ab,trivial⟩) (rest () (go e0 (.inr k2)))
    . have k1:kd=1:=by simpa using h2
      exact ib (st1:=⟨[(6,.ptr 6 0)],[(6,.box ((ia ⟨kd,sets,ct⟩).map .d))]⟩) (aj.keep ⟨ab,trivial⟩ ⟨ab,trivial⟩) (rest () (go e0 (.inl k1)))
 case h2 =>
  rintro _ hA;rw[hA];show kP _ _ _ _ _ _ _
  conv=>whnf
  refine⟨Nat,λk=>⟨[(6,.ptr 6 0),(8,.d (.slice 3 ((iu (sets.take k)).map bt))),(31,.d (.slice 5 (sets.map az))),(32,.d (.int .i64 ((sets.map az).length:Int))),(33,.d (.int .i64 k))],[(6,.box ((ia ⟨kd,sets,ct⟩).map .d))]⟩,λk=>k<=sets.length,λk=>sets.length-k,
   ⟨0,Nat.zero_le _,(aj.qf 8 3 rfl).trans (aj.keep ⟨ab,ab,ab,ab,ab,trivial⟩ ⟨ab,trivial⟩)⟩,λk hk=>?_⟩
  dsimp only at hk ⊢
  conv=>whnf
  refine ae (λh1=>?_) (λh1=>?_) <;> (rw[h1];conv=>whnf)
  . have hlt:k<sets.length:=by simpa using h1
    obtain⟨s,hs⟩:∃s,sets[k]? =some s:=⟨_,ag hlt⟩
    have hl:=gO hs;refine⟨av k,az s,aC hs,?_⟩
    conv=>whnf
    refine ae (λh2=>?_) (λh2=>?_) <;> (rw[h2];conv=>whnf)
    . have h2' :(s.set.type==1)=true:=h2;rw[h2',if_pos rfl]at hl;exact⟨k+1,hlt,by(show sets.length-(k+1)<sets.length-k;omega),aj.keep ⟨ab,⟨by rw[hl];rfl,rfl⟩,ab,ab,⟨ao (by omega),rfl⟩,trivial⟩ ⟨ab,trivial⟩⟩
    . have h2' :(s.set.type==1)=false:=h2;rw[h2',if_neg (by simp)]at hl;exact⟨k+1,hlt,by(show sets.length-(k+1)<sets.length-k;omega),aj.keep ⟨ab,⟨by rw[hl];rfl,rfl⟩,ab,ab,⟨ao (by omega),rfl⟩,trivial⟩ ⟨ab,trivial⟩⟩
  . obtain rfl:k=sets.length:=by simp at h1;omega
    rw[List.take_length];refine af rfl ?_;have:(!(iu sets==[]))=decide ((((iu sets).map bt).length:Int)>0):=by
     rw[ak];cases iu sets with
     |nil=>rfl
     |cons x t=>symm;show decide ((((x::t:List Datum).length:Nat):Int)>0)=true;rw[decide_eq_true_iff,List.length_cons];omega
    rw[this];rfl
theorem yZ(l:List Fnd)(a:Bs)(hl:l.length<=100000):NQ.Fn cx 35 [.slice 3 (l.map cg),.str a] (.d (.bool (kj l a))) []:=by
 refine aA aO mixed Tryz.func35 (by kernel_rfl) rfl (ah rfl) ?_;conv=>whnf
 refine⟨Nat,λk=>⟨[(1,.d (.str a)),(7,.d (.slice 3 (l.map cg))),(8,.d (.int .i64 ((l.map cg).length:Int))),(9,.d (.int .i64 k))],[]⟩,λk=>k<=l.length/\kj (l.take k) a=false,λk=>l.length-k,
  ⟨0,⟨Nat.zero_le _,rfl⟩,aj.keep ⟨ab,ab,ab,ab,trivial⟩ trivial⟩,λk ⟨hk,hno⟩=>?_⟩
 dsimp only at hk hno ⊢
 conv=>whnf
 refine ae (λh1=>?_) (λh1=>?_) <;> (rw[h1];conv=>whnf)
 . have hlt:k<l.length:=by simpa using h1
   obtain⟨f,hf⟩:∃s,l[k]? =some s:=⟨_,ag hlt⟩
   have on:((f.zone==a)&&(f.kind != 2))=false->kj (l.take (k+1)) a=false:=λe=>by
    unfold kj at hno ⊢;rw[bg hf,List.any_append,hno,List.any_cons,List.any_nil,e];rfl
   refine⟨av k,cg f,aC hf,?_⟩
   conv=>whnf
   cases h2:(f.zone==a)with
   |false =>
    conv=>whnf
    exact⟨k+1,⟨hlt,on (by rw[h2];rfl)⟩,by(show l.length-(k+1)<l.length-k;omega),aj.keep ⟨ab,ab,ab,⟨ao (by omega),rfl⟩,trivial⟩ trivial⟩
   |true =>
    conv=>whnf
    refine ae (λh3=>?_) (λh3=>?_) <;> (rw[h3];conv=>whnf)
    . refine af rfl ?_;have:kj l a=true:=by
       unfold kj;rw[List.any_eq_true];exact⟨f,aq hf,by rw[h2,show(f.kind != 2)=true from h3];rfl⟩
      rw[this];rfl
    . exact⟨k+1,⟨hlt,on (by rw[h2,show(f.kind != 2)=false from h3];rfl)⟩,by(show l.length-(k+1)<l.length-k;omega),aj.keep ⟨ab,ab,ab,⟨ao (by omega),rfl⟩,trivial⟩ trivial⟩
 . obtain rfl:k=l.length:=by simp at h1;omega
   rw[List.take_length]at hno;refine af rfl ?_;rw[hno];rfl
theorem sx{w:ay}(hF:cw w)(hz:w.zones.length<=100):(ij w).1.length<=20000:=by
 unfold ij;cases hv:aK w with
 |false=>rw[if_neg (by simp)];exact Nat.zero_le _
 |true =>
  rw[if_pos rfl];have h1:=qP (nf (findAll w)).nodup λf hf=>kI.1 hf
  have h2:=xi hF hv hz;show(nc (findAll w)).length<=_
  omega
end Go.Proofs.YtjapjahfllomkaaGreatDoor
namespace NP
open NQ Go
theorem Sq{α:Type}{l:List α}{k:Nat}(hk:k<l.length):l.reverse[k]? =l[l.length-1-k]? :=by
 rw[List.getElem?_reverse hk]
end NP
namespace Go.Proofs.YtjapjahfllomkaaGreatDoor
open NQ Go NP Go.RowKit
@[reducible] def TK (L:List Fnd) (k:Nat) (a b:Fnd):St:=⟨[(3,.d (.bool true)),(4,.d (.slice 3 (L.map cg))),(5,.d (.int .i64 0)),(8,.d (.slice 3 (L.map cg))),(9,.d (.int .i64 0)),(10,.d (.int .i64 k)),(11,.ptr 11 0),(12,.ptr 12 0)],[(11,.box ((cg a).map .d)),(12,.box ((cg b).map .d))]⟩
set_option maxHeartbeats 4000000 in
theorem ES(hH:yV)(w:ay):NQ.Fn cx 4 [.agg (ba w)] (.d (.bool true)) []:=by
 have fU:=od w;cases hu:(iw w&&aK w)with
 |false =>
  rw[hu]at fU;refine aA aO mixed Tryz.func4 (by kernel_rfl) rfl (ah rfl) ?_;conv=>whnf
  (refine⟨_,_,hH,?_⟩;conv=>whnf)
  (refine⟨_,_,fU,?_⟩;conv=>whnf)
  exact af rfl rfl
 |true =>
 rw[hu]at fU;obtain⟨hf,hv⟩:iw w=true/\aK w=true:=by simpa using hu
 obtain⟨hF,hzl⟩:=tr hf;have hs:=Qb hv hF;have f1:=eV w hF (by omega);have f2:=eV (FB w) hs.few' (by show w.zones.reverse.length<=100;rw[List.length_reverse];omega);have hlen:=sx hF (by omega);have e1:ij w=(fp w,0):=by unfold ij;rw[if_pos hv]
 have e2:ij (FB w)=(fp w,0):=by unfold ij;rw[if_pos hs.valid',find_congr hs]
 rw[e1]at f1 hlen;rw[e2]at f2;have hr:lO (fp w):=nf _;have hok:∀f∈fp w,wm f:=λf hf=>Es hF hv (kI.1 hf)
 generalize fp w=L at *
 dsimp only at hlen f1 f2;have f3:=tY L L (by omega);rw[decide_eq_true rfl]at f3;refine cH (fun|15=>[66666]|16=>[55555]|11=>[55555]|_=>[]) aO mixed Tryz.func4 (by kernel_rfl) rfl (ah rfl) ?_
 conv=>whnf
 (refine⟨_,_,hH,?_⟩;conv=>whnf)
 (refine⟨_,_,fU,?_⟩;conv=>whnf)
 (refine⟨_,_,f1,?_⟩;conv=>whnf)
 have ew0:IntKind.i64.wrap (((w.zones.map aN).length:Int)-1)=(w.zones.length:Int)-1:=by
  rw[ak];exact wrap_i64 (by omega) (by omega)
 refine⟨Nat,λk=>⟨[(1,.ptr 1 0),(3,.d (.bool true)),(4,.d (.slice 3 (L.map cg))),(5,.d (.int .i64 0)),(6,.ptr 6 0),(7,.d (.int .i64 ((w.zones.length:Int)-1-k)))],[(1,.box ((ba w).map .d)),(6,.box (((ba w).take 1).map .d++ .own 200::((ba w).drop 2).map .d)),(200,.row 45 3 ((w.zones.reverse.take k).map aN))]⟩,
  λk=>k<=w.zones.length,λk=>w.zones.length-k,
  ⟨0,Nat.zero_le _,(aj.mU 6 1 200 3 (((ba w).take 1).map .d++ .nil 3::((ba w).drop 2).map .d) 45 3 rfl rfl rfl (by decide)).trans (aj.keep ⟨ab,ab,ab,ab,ab,⟨?_,rfl⟩,trivial⟩ ⟨ab,ab,ab,trivial⟩)⟩,λk hk=>?_⟩
 . show AV.d (.int .i64 (IntKind.i64.wrap (((w.zones.map aN).length:Int)-1)))=AV.d (.int .i64 ((w.zones.length:Int)-1-((0:Nat):Int)))
   rw[ew0];simp
 conv=>whnf
 refine ae (λg3=>?_) (λg3=>?_) <;> (rw[g3];conv=>whnf)
 . have hlt:k<w.zones.length:=by simp at g3;omega
   (refine⟨(by kernel_rfl:bf _ _=true),?_⟩;conv=>whnf)
   have hj:w.zones.length-1-k<w.zones.length:=by omega
   obtain⟨p,hp⟩:∃p,w.zones[w.zones.length-1-k]? =some p:=⟨_,ag hj⟩
   have hr:w.zones.reverse[k]? =some p:=by rw[Sq hlt];exact hp
   have ew1:(w.zones.length:Int)-1-(k:Int)=((w.zones.length-1-k:Nat):Int):=by omega
   rw[ew1];refine⟨av _,aN p,aC hp,?_⟩
   conv=>whnf
   have htl:(w.zones.reverse.take k).length=k:=by rw[List.length_take,List.length_reverse];omega
   have ew2:IntKind.i64.wrap ((w.zones.length:Int)-1-(k:Int)-1)=(w.zones.length:Int)-1-((k+1:Nat):Int):=by rw[wrap_i64 (by omega) (by omega)];omega
   refine⟨by(show((w.zones.reverse.take k).map aN).length+1<=_);rw[ak];omega,by(show(((w.zones.reverse.take k).map aN).length+1)*48<=_);rw[ak];omega,?_⟩
   conv=>whnf
   refine⟨k+1,hlt,by(show w.zones.length-(k+1)<w.zones.length-k;omega),?_⟩;refine aj.keep ⟨ab,ab,ab,ab,ab,⟨?_,rfl⟩,trivial⟩ ⟨ab,⟨?_,rfl⟩,⟨?_,rfl⟩,trivial⟩
   . exact congrArg (λi=>AV.d (.int .i64 i)) ew2
   . rfl
   . rw[bg hr,List.map_append];rfl
 obtain rfl:k=w.zones.length:=by simp at g3;omega
 have hfull:w.zones.reverse.take w.zones.length=w.zones.reverse:=List.take_of_length_le (by rw[List.length_reverse];exact Nat.le_refl _);dsimp only;rw[hfull];refine⟨⟨[(3,.d (.bool true)),(4,.d (.slice 3 (L.map cg))),(5,.d (.int .i64 0)),(6,.ptr 6 0)],[(6,.box ((ba (FB w)).map .d))]⟩,(aj.Tn [200]).trans (aj.keep ⟨ab,ab,ab,ab,trivial⟩ ⟨ab,trivial⟩),?_⟩
 conv=>whnf
 (refine⟨_,_,f2,?_⟩;conv=>whnf)
 refine⟨Nat,λk=>⟨[(3,.d (.bool true)),(4,.d (.slice 3 (L.map cg))),(5,.d (.int .i64 0)),(8,.d (.slice 3 (L.map cg))),(9,.d (.int .i64 0)),(10,.d (.int .i64 k))],[]⟩,
  λk=>1<=k/\k<=L.length+1,λk=>L.length+1-k,
  ⟨1,⟨Nat.le_refl _,by omega⟩,aj.keep ⟨ab,ab,ab,ab,ab,ab,trivial⟩ trivial⟩,λk ⟨hk1,hk2⟩=>?_⟩
 conv=>whnf
 refine ae (λg1=>?_) (λg1=>?_) <;> (rw[g1];conv=>whnf)
 . have hlt:k<L.length:=by simpa using g1
   have hlt' :k-1<L.length:=by omega
   obtain⟨a,ha⟩:∃a,L[k-1]? =some a:=⟨_,ag hlt'⟩
   obtain⟨b,hb⟩:∃b,L[k]? =some b:=⟨_,ag hlt⟩
   have hc:gI a b<0:=by
    obtain⟨h1,h2⟩:=ar.1 ha;obtain⟨h3,h4⟩:=ar.1 hb;have:=List.pairwise_iff_getElem.1 hr (k-1) k h1 h3 (by omega);rw[h2,h4]at this;exact this
   rw[wx]at hc;have oa:=hok a (aq ha);have ob:=hok b (aq hb);have hz:=bp.zero a.zone b.zone;have ew1:IntKind.i64.wrap ((k:Int)-1)=((k-1:Nat):Int):=by rw[wrap_i64 (by omega) (by omega)];omega
   have again:∃a',(1<=a' /\a' <=L.length+1)/\a' =k+1:=⟨k+1,⟨by omega,by omega⟩,rfl⟩
   (refine⟨(by rfl:jQ _=true),?_⟩;conv=>whnf)
   apply su (α:=Unit) (P:=λ_=>True) (canon:=λ_=>TK L k a b)
   case h1 =>
    intro rest
    repeat' (first
     |(exact ib (st1:=TK L k a b) (aj.keep ⟨ab,ab,ab,ab,ab,ab,ab,ab,trivial⟩ ⟨ab,ab,trivial⟩) (rest () trivial))
     |(refine⟨by rw[ew1];exact av _,cg a,by rw[ew1];exact aC ha,?_⟩;conv=>whnf)
     |(refine⟨av _,cg b,aC hb,?_⟩;conv=>whnf)
     |(refine And.intro (by kernel_rfl) ?_;conv=>whnf)
     |(refine And.intro ?_ ?_ <;> (conv=>whnf))
     |fail)
   case h2 =>
   rintro _ _;show kP _ _ _ _ _ _ _
   conv=>whnf
   (refine⟨(by kernel_rfl:bf _ _=true),?_⟩;conv=>whnf)
   (refine⟨_,_,uz a.zone b.zone (cz oa.1) (cz ob.1),?_⟩;conv=>whnf)
   (refine⟨_,_,uz a.name b.name (cz oa.2) (cz ob.2),?_⟩;conv=>whnf)
   refine ae (λg2=>?_) (λg2=>?_) <;> (rw[g2];conv=>whnf)
   . exfalso
     have:b.kind<a.kind:=by simpa using g2
     rcases hc with h|⟨h,_⟩ <;> omega
   refine ae (λg4=>?_) (λg4=>?_) <;> (rw[g4];conv=>whnf)
   . refine ae (λg5=>?_) (λg5=>?_) <;> (rw[g5];conv=>whnf)
     . exfalso
       have e4:a.kind=b.kind:=by simpa using g4
       have:0<aI a.zone b.zone:=by simpa using g5
       rcases hc with h|⟨_,h|⟨h,_⟩⟩
       . omega
       . omega
       . have:=hz.2 h;omega
     . refine ae (λg6=>?_) (λg6=>?_) <;> (rw[g6];conv=>whnf)
       . refine ae (λg7=>?_) (λg7=>?_) <;> (rw[g7];conv=>whnf)
         . exfalso
           have e4:a.kind=b.kind:=by simpa using g4
           have e6:aI a.zone b.zone=0:=by simpa using g6
           have:0<=aI a.name b.name:=by simpa using g7
           rcases hc with h|⟨_,h|⟨_,h⟩⟩ <;> omega
         . exact⟨k+1,⟨by omega,by omega⟩,by(show L.length+1-(k+1)<L.length+1-k;omega),aj.keep ⟨ab,ab,ab,ab,ab,⟨ao (by omega),rfl⟩,trivial⟩ trivial⟩
       . exact⟨k+1,⟨by omega,by omega⟩,by(show L.length+1-(k+1)<L.length+1-k;omega),aj.keep ⟨ab,ab,ab,ab,ab,⟨ao (by omega),rfl⟩,trivial⟩ trivial⟩
   . exact⟨k+1,⟨by omega,by omega⟩,by(show L.length+1-(k+1)<L.length+1-k;omega),aj.keep ⟨ab,ab,ab,ab,ab,⟨ao (by omega),rfl⟩,trivial⟩ trivial⟩
 . conv=>whnf
   (refine⟨_,_,f3,?_⟩;conv=>whnf)
   exact af rfl rfl
end Go.Proofs.YtjapjahfllomkaaGreatDoor
namespace NP
open NQ Go
theorem zb{w:ay}(hF:cw w)(hv:aK w=true)(n:Bs):(bD w n).length<=20:=by
 by_cases h:bD w n=[]
 . rw[h];exact Nat.zero_le _
 . obtain⟨p,hp,s,hs,_,e⟩:=zd hF hv h;rw[e];exact((dv (hF.few p hp)).2 s hs).1
theorem wQ{n:Int}(h:(Lit.int .u8 n).wf=true):0<=n/\n<=255:=by
 simp[Lit.wf,IntKind.min,IntKind.max,IntKind.signed,IntKind.bits]at h;omega
end NP
namespace Go.Proofs.YtjapjahfllomkaaGreatDoor
open NQ Go NP Go.RowKit
theorem vN{t:TypeId}(a b:Int)(hb:b≠0):Jj cx .rem t (.d (.int .i64 a)) (.d (.int .i64 b))=some (.d (.int .i64 (a.tmod b))):=by
 show(match lH .rem .i64 a b with|some r=>some (AV.d r)|none=>none)=_
 unfold lH;rw[decide_eq_false hb]
@[reducible] def Ux (w:ay) (f:Fnd) (zi:Int) (D:List Datum) (zs:List ai) (k:Nat):St :=
 ⟨[(2,.ptr 2 0),(5,.d (.bool true)),(8,.ptr 8 0),(9,.d (.int .i64 zi)),(10,.d (.slice 3 (D.map bt))),(12,.ptr 12 0),(84,.d (.slice 3 (D.map bt))),(85,.d (.int .i64 ((D.map bt).length:Int))),(86,.d (.int .i64 k))],
  [(2,.box ((ba w).map .d)),(8,.box ((cg f).map .d)),(12,.box (((ba w).take 1).map .d++ .own 79::((ba w).drop 2).map .d)),(79,.row 45 3 (zs.map aN))]⟩
set_option maxHeartbeats 4000000 in
theorem CU(hH:yV)(w:ay)(pick:Int)(hpk:(Lit.int .u8 pick).wf=true):NQ.Fn cx 5 [.agg (ba w),.int .u8 pick] (.d (.bool true)) []:=by
 have fU:=od w;cases hu:(iw w&&aK w)with
 |false =>
  rw[hu]at fU;refine aA aO mixed Tryz.func5 (by kernel_rfl) rfl (ah rfl) ?_;conv=>whnf
  (refine⟨_,_,hH,?_⟩;conv=>whnf)
  (refine⟨_,_,fU,?_⟩;conv=>whnf)
  exact af rfl rfl
 |true =>
 rw[hu]at fU;obtain⟨hf,hv⟩:iw w=true/\aK w=true:=by simpa using hu
 obtain⟨hF,hzl⟩:=tr hf;obtain⟨p0,rfl⟩:∃n:Nat,pick=n:=⟨pick.toNat,by have:=(wQ hpk).1;omega⟩
 have hp2:p0<=255:=by have:=(wQ hpk).2;omega
 have hz:∀p∈w.zones,aY p.zone=true:=λp hp=>(bE hv p hp).1
 have hhl:=hF.hosts;have f1:=eV w hF (by omega);have hlen:=sx hF (by omega);have e1:ij w=(fp w,0):=by unfold ij;rw[if_pos hv]
 rw[e1]at f1 hlen;have hok:∀f∈fp w,wm f:=λf hf=>Es hF hv (kI.1 hf)
 dsimp only at hlen f1;refine cH (fun|23=>[55555]|_=>[]) aO mixed Tryz.func5 (by kernel_rfl) rfl (ah rfl) ?_
 conv=>whnf
 (refine⟨_,_,hH,?_⟩;conv=>whnf)
 (refine⟨_,_,fU,?_⟩;conv=>whnf)
 (refine⟨_,_,f1,?_⟩;conv=>whnf)
 generalize hL:fp w=L at *
 refine ae (λg1=>?_) (λg1=>?_) <;> (rw[g1];conv=>whnf)
 . exact af rfl rfl
 have hL0:0<L.length:=by
  have:L≠[]:=by simpa using g1
  exact List.length_pos_iff.2 this
 have hilt:p0 % L.length<L.length:=Nat.mod_lt _ hL0;obtain⟨f,hf1⟩:∃f,L[p0 % L.length]? =some f:=⟨_,ag hilt⟩
 have hfm:=aq hf1;have hfo:=hok f hfm;have ew:IntKind.i64.wrap (p0:Int)=(p0:Int):=wrap_i64 (by omega) (by omega);have er:=vN (t:=3) (IntKind.i64.wrap (p0:Int)) (((L.map cg).length:Nat):Int) (by rw[ak];omega);have ek:(IntKind.i64.wrap (p0:Int)).tmod (((L.map cg).length:Nat):Int)=((p0 % L.length:Nat):Int):=by
  rw[ew,ak,Int.tmod_eq_emod_of_nonneg (by omega)];rfl
 rw[ek]at er;split
 case h_2 hb=>exact absurd (hb.symm.trans er) (by simp)
 case h_1 hb =>
 cases hb.symm.trans er
 conv=>whnf
 refine⟨av _,cg f,aC hf1,?_⟩
 conv=>whnf
 (refine⟨_,_,yd w.zones f.zone hz (by omega),?_⟩;conv=>whnf)
 (refine⟨_,_,rq w f.name hF,?_⟩;conv=>whnf)
 have hDl:=zb hF hv f.name;obtain⟨D,hD⟩:∃D,D=bD w f.name:=⟨_,rfl⟩
 rw[<- hD]at hDl ⊢;refine ae (λg2=>?_) (λg2=>?_) <;> (rw[g2];conv=>whnf)
 . exact af rfl rfl
 have hk1:f.kind=1:=by simpa using g2
 cases hc:aR w.zones f.zone with
 |none =>
  rw[show Fu none= -1 from rfl]
  conv=>whnf
  exact af rfl rfl
 |some x =>
 have hx:=tg w.zones f.zone x hc;have hxm:=aq hx;obtain⟨c1,c2,_⟩:=cF hc;rw[show Fu (some x)=((x.1:Nat):Int)from rfl];rw[show decide (((x.1:Nat):Int)<0)=false from decide_eq_false (by omega)]
 conv=>whnf
 refine ae (λg3=>?_) (λg3=>?_) <;> (rw[g3];conv=>whnf)
 . exact af rfl rfl
 have hz10:w.zones.length<=10:=by
  have:((w.zones.map aN).length:Int)<=10:=by simpa using g3
  rw[ak]at this;omega
 refine⟨by(show 0+(w.zones.map aN).length<=_);rw[ak];omega,by(show(0+(w.zones.map aN).length)*48<=_);rw[ak];omega,?_⟩
 conv=>whnf
 refine⟨List ai×Nat,λy=>Ux w f (x.1:Nat) D y.1 y.2,λy=>y.2<=D.length/\yW w f.zone y.2 (eL w y.1)/\ ∀d∈D.take y.2,bc (eL w y.1) f.zone d.n=true,λy=>D.length-y.2,
  ⟨(w.zones,0),⟨Nat.zero_le _,⟨rfl,hv,hF,Nat.le_refl _,by show(aR w.zones f.zone).isSome=true;rw[hc];rfl⟩,λd hd=>by simp at hd⟩,aj.keep ⟨ab,ab,ab,ab,ab,ab,ab,ab,ab,trivial⟩ ⟨ab,ab,ab,ab,trivial⟩⟩,λy ⟨hk,hm,hs⟩=>?_⟩
 obtain⟨zs,k⟩:=y;dsimp only at hk hm hs
 conv=>whnf
 refine ae (λg4=>?_) (λg4=>?_) <;> (rw[g4];conv=>whnf)
 . have hlt:k<D.length:=by simpa using g4
   obtain⟨d,hd⟩:∃d,D[k]? =some d:=⟨_,ag hlt⟩
   refine⟨av k,bt d,aC hd,?_⟩
   conv=>whnf
   (refine⟨_,_,ED w.hosts d.n (by omega),?_⟩;conv=>whnf)
   refine ae (λg5=>?_) (λg5=>?_) <;> (rw[g5];conv=>whnf)
   . exact af rfl rfl
   have hn:¬cN w.hosts d.n<0:=by simpa using g5
   have hzx:=hz x.2 hxm;have hsz:=hm.size;have hst:=MM hzx (hF.few x.2 hxm) (k:=k) (x:=eL w zs) (w:=w) (by rw[c2];exact hm) (by omega) hn;rw[c2]at hst;have fS:=Hh (eL w zs) d.n f.zone hm.few hm.valid;refine⟨_,fS,rfl,?_⟩
   conv=>whnf
   have hdk:∀y:List ai,bc (eL w y) f.zone d.n=true->(∀m,bc (eL w zs) f.zone m=true->bc (eL w y) f.zone m=true)-> ∀e∈D.take (k+1),bc (eL w y) f.zone e.n=true:=λy h1 h2 e he=>by
    rw[bg hd]at he;rcases List.mem_append.1 he with he|he
    . exact h2 _ (hs e he)
    . rw[List.mem_singleton]at he;subst he;exact h1
   unfold qc at hst;rw[c2]at hst;cases h6:bc (eL w zs) f.zone d.n with
   |true =>
    rw[h6,if_pos rfl]at hst
    conv=>whnf
    exact⟨(zs,k+1),⟨hlt,hst.1,hdk zs h6 λm h=>h⟩,by(show D.length-(k+1)<D.length-k;omega),aj.keep ⟨ab,ab,ab,ab,ab,ab,ab,ab,⟨ao (by omega),rfl⟩,trivial⟩ ⟨ab,ab,ab,ab,trivial⟩⟩
   |false =>
    rw[h6,if_neg (by simp)]at hst
    conv=>whnf
    (refine⟨(by kernel_rfl:bf _ _=true),?_⟩;conv=>whnf)
    have hzsl:zs.length<=w.zones.length+k:=hsz;refine⟨av _,aN x.2,aC hx,?_⟩
    conv=>whnf
    refine⟨by(show(zs.map aN).length+1<=_);rw[ak];omega,by(show((zs.map aN).length+1)*48<=_);rw[ak];omega,?_⟩
    conv=>whnf
    have hst1:yW w f.zone (k+1) (eL w (zs++[(ai.mk (cN w.hosts d.n) x.2.zone)])):=hst.1;have hst2:=hdk (zs++[(ai.mk (cN w.hosts d.n) x.2.zone)]) hst.2.1 hst.2.2;refine⟨(zs++[(ai.mk (cN w.hosts d.n) x.2.zone)],k+1),⟨hlt,hst1,hst2⟩,by(show D.length-(k+1)<D.length-k;omega),aj.keep ⟨ab,ab,ab,ab,ab,ab,ab,ab,⟨ao (by omega),rfl⟩,trivial⟩ ⟨ab,ab,ab,⟨?_,rfl⟩,trivial⟩⟩;show _=some (Blk.row _ _ ((zs++[_]).map aN) _)
    rw[List.map_append];rfl
 . obtain rfl:k=D.length:=by simp at g4;omega
   rw[List.take_length]at hs;have hsz:zs.length<=w.zones.length+D.length:=hm.size;have f7:=eV (eL w zs) hm.few (by show zs.length<=100;omega);have hlen7:=sx hm.few (by show zs.length<=100;omega);have e7:ij (eL w zs)=(fp (eL w zs),0):=by unfold ij;rw[if_pos hm.valid]
   rw[e7]at f7 hlen7;have f8:=rq (eL w zs) f.name hm.few;have hno:=Ts hm.few hm.valid (f:=f) hk1 hs;have f9:=He D (bD (eL w zs) f.name) (by omega);generalize fp (eL w zs)=L2 at *
   generalize bD (eL w zs) f.name=D2 at *
   dsimp only at hlen7 f7;refine⟨⟨[(5,.d (.bool true)),(8,.ptr 8 0),(10,.d (.slice 3 (D.map bt))),(12,.ptr 12 0)],[(8,.box ((cg f).map .d)),(12,.box ((ba (eL w zs)).map .d))]⟩,(aj.Tn [79]).trans (aj.keep ⟨ab,ab,ab,ab,trivial⟩ ⟨ab,ab,trivial⟩),?_⟩
   conv=>whnf
   (refine⟨_,_,f7,?_⟩;conv=>whnf)
   (refine⟨_,_,f8,?_⟩;conv=>whnf)
   refine⟨Nat,λk=>⟨[(5,.d (.bool true)),(8,.ptr 8 0),(10,.d (.slice 3 (D.map bt))),(18,.d (.slice 3 (D2.map bt))),(133,.d (.slice 3 (L2.map cg))),(134,.d (.int .i64 ((L2.map cg).length:Int))),(135,.d (.int .i64 k))],[(8,.box ((cg f).map .d))]⟩,
    λk=>k<=L2.length,λk=>L2.length-k,
    ⟨0,Nat.zero_le _,aj.keep ⟨ab,ab,ab,ab,ab,ab,ab,trivial⟩ ⟨ab,trivial⟩⟩,λk hk=>?_⟩
   conv=>whnf
   refine ae (λg5=>?_) (λg5=>?_) <;> (rw[g5];conv=>whnf)
   . have hlt:k<L2.length:=by simpa using g5
     obtain⟨g,hg⟩:∃g,L2[k]? =some g:=⟨_,ag hlt⟩
     refine⟨av k,cg g,aC hg,?_⟩
     conv=>whnf
     refine ae (λg6=>?_) (λg6=>?_) <;> (rw[g6];conv=>whnf)
     . have e:g=f:=by
        cases g;cases f;simp at g6;simp[g6]
       subst e;have hne:D≠D2:=λe=>hno e.symm (aq hg)
       rw[decide_eq_false hne]at f9
       (refine⟨_,_,f9,?_⟩;conv=>whnf)
       exact af rfl rfl
     . exact⟨k+1,hlt,by(show L2.length-(k+1)<L2.length-k;omega),aj.keep ⟨ab,ab,ab,ab,ab,ab,⟨ao (by omega),rfl⟩,trivial⟩ ⟨ab,trivial⟩⟩
   . exact af rfl rfl
end Go.Proofs.YtjapjahfllomkaaGreatDoor
namespace NP
open NQ Go
theorem EF{f:dD->Bool}{l:List dD}{k:Nat}{n:Int}:n∈jX f l k ↔ ∃i h,i<k/\l[i]? =some h/\f h=true/\n=(i:Int):=by
 unfold jX;rw[List.mem_map];constructor
 . rintro⟨i,hi,rfl⟩;obtain⟨h1,h2⟩:=List.mem_filter.1 hi;cases hl:l[i]? with
   |none=>rw[hl]at h2;cases h2
   |some h=>rw[hl]at h2;exact⟨i,h,List.mem_range.1 h1,hl,h2,rfl⟩
 . rintro⟨i,h,h1,h2,h3,rfl⟩;exact⟨i,List.mem_filter.2 ⟨List.mem_range.2 h1,by rw[h2];exact h3⟩,rfl⟩
theorem Ps(f:dD->Bool)(l:List dD)(k:Nat):(jX f l k).Pairwise (· < ·):=by
 unfold jX;rw[List.pairwise_map];exact(List.pairwise_lt_range.filter _).imp λ{a b} h=>Int.ofNat_lt.2 h
theorem KM{w:ay}(hF:cw w)(hv:aK w=true){a:Bs}(hc:(aR w.zones a).isSome=true){l:List Datum}(hd:cB w.zones a=some l)(h0:jX (onB w a) w.hosts w.hosts.length=[]):kj (fp w) a=true:=by
 refine Pg hF hv hc hd λd hdm x hx=>?_
 cases hs:bc w a x.n with
 |false=>rfl
 |true =>
  exfalso
  have hs' :=hs;unfold bc at hs';rw[List.any_eq_true]at hs';obtain⟨p,hp,hpp⟩:=hs';simp only[aB,beq_iff_eq]at hpp;obtain⟨_,g0,g1⟩:=bE hv p hp;have hlt:p.host.toNat<w.hosts.length:=by omega
  obtain⟨h,hh⟩:∃h,w.hosts[p.host.toNat]? =some h:=⟨_,ag hlt⟩
  have hha:h.addr=x.n:=by have:=hpp.2;unfold addrOf at this;rw[hh]at this;exact this
  have:((p.host.toNat:Nat):Int)∈jX (onB w a) w.hosts w.hosts.length:=by
   refine EF.2 ⟨_,h,hlt,hh,?_,rfl⟩;unfold onB;rw[oT hv hc,hd,hha,hs,gj,List.any_eq_true];refine⟨d.text,List.mem_map.2 ⟨d,hdm,rfl⟩,?_⟩;rw[df,xS];exact List.mem_map.2 ⟨x,hx,rfl⟩
  rw[h0]at this;cases this
end NP
namespace Go.Proofs.YtjapjahfllomkaaGreatDoor
open NQ Go NP Go.RowKit
@[reducible] def Uy (w:ay) (a:Bs) (l:List Int) (k:Nat):St :=
 ⟨[(2,.ptr 2 0),(5,.d (.bool true)),(6,.d (.str a)),(7,.d (.slice 1 (l.map bd))),(46,.d (.slice 1 (l.map bd))),(47,.d (.int .i64 ((l.map bd).length:Int))),(48,.d (.int .i64 k))],[(2,.box ((ba w).map .d))]⟩
set_option maxHeartbeats 4000000 in
theorem Bk(hH:yV)(w:ay)(pick:Int)(hpk:(Lit.int .u8 pick).wf=true):NQ.Fn cx 7 [.agg (ba w),.int .u8 pick] (.d (.bool true)) []:=by
 have fU:=od w;cases hu:(iw w&&aK w)with
 |false =>
  rw[hu]at fU;refine aA aO mixed Tryz.func7 (by kernel_rfl) rfl (ah rfl) ?_;conv=>whnf
  (refine⟨_,_,hH,?_⟩;conv=>whnf)
  (refine⟨_,_,fU,?_⟩;conv=>whnf)
  exact af rfl rfl
 |true =>
 rw[hu]at fU;obtain⟨hf,hv⟩:iw w=true/\aK w=true:=by simpa using hu
 obtain⟨hF,hzl⟩:=tr hf;obtain⟨p0,rfl⟩:∃n:Nat,pick=n:=⟨pick.toNat,by have:=(wQ hpk).1;omega⟩
 have hp2:p0<=255:=by have:=(wQ hpk).2;omega
 have hz:∀p∈w.zones,aY p.zone=true:=λp hp=>(bE hv p hp).1
 have hhl:=hF.hosts;refine cH (λ_=>[]) aO mixed Tryz.func7 (by kernel_rfl) rfl (ah rfl) ?_
 conv=>whnf
 (refine⟨_,_,hH,?_⟩;conv=>whnf)
 (refine⟨_,_,fU,?_⟩;conv=>whnf)
 refine ae (λg1=>?_) (λg1=>?_) <;> (rw[g1];conv=>whnf)
 . exact af rfl rfl
 have hL0:0<w.zones.length:=by
  have:w.zones≠[]:=by simpa using g1
  exact List.length_pos_iff.2 this
 have hilt:p0 % w.zones.length<w.zones.length:=Nat.mod_lt _ hL0;obtain⟨p,hp⟩:∃p,w.zones[p0 % w.zones.length]? =some p:=⟨_,ag hilt⟩
 have hpm:=aq hp;obtain⟨a,ha⟩:∃a,a=p.zone.apex:=⟨_,rfl⟩
 have hva:au a=true:=by rw[ha];exact(dq.1 (hz p hpm)).ord.apex
 have hc:(aR w.zones a).isSome=true:=by rw[ha];exact iP hpm
 have hS:im w a=(jX (onB w a) w.hosts w.hosts.length,0):=by
  unfold im;rw[hv,hva];obtain⟨x,hx⟩:=Option.isSome_iff_exists.1 hc;rw[hx];rfl
 have f1:=po w a hF;rw[hS]at f1;have f2:=eV w hF (by omega);have hlen:=sx hF (by omega);have e1:ij w=(fp w,0):=by unfold ij;rw[if_pos hv]
 rw[e1]at f2 hlen;dsimp only at hlen;have f3:=JA w a hF hv hva hc;have f4:=yZ (fp w) a (by omega);have hab:=λl (hd:cB w.zones a=some l)=>KM hF hv hc hd
 have hin:∀n∈jX (onB w a) w.hosts w.hosts.length,∃(i:Nat) (h:dD),n=(i:Int)/\w.hosts[i]? =some h/\bc w a h.addr=true:=λn hn=>by
  obtain⟨i,h,_,h2,h3,h4⟩:=EF.1 hn;unfold onB at h3;simp only[aB]at h3;exact⟨i,h,h4,h2,h3.2⟩
 have hasc:=Ps (onB w a) w.hosts w.hosts.length;have hll:=EE (onB w a) w.hosts w.hosts.length;generalize jX (onB w a) w.hosts w.hosts.length=l at *
 generalize fp w=L at *
 generalize cB w.zones a=dl at *
 dsimp only at f1 f2
 (refine⟨(by kernel_rfl:bf _ _=true),?_⟩;conv=>whnf)
 have ew:IntKind.i64.wrap (p0:Int)=(p0:Int):=wrap_i64 (by omega) (by omega);have er:=vN (t:=3) (IntKind.i64.wrap (p0:Int)) (((w.zones.map aN).length:Nat):Int) (by rw[ak];omega);have ek:(IntKind.i64.wrap (p0:Int)).tmod (((w.zones.map aN).length:Nat):Int)=((p0 % w.zones.length:Nat):Int):=by
  rw[ew,ak,Int.tmod_eq_emod_of_nonneg (by omega)];rfl
 rw[ek]at er;split
 case h_2 hb=>exact absurd (hb.symm.trans er) (by simp)
 case h_1 hb =>
 cases hb.symm.trans er
 conv=>whnf
 refine⟨av _,aN p,aC hp,?_⟩
 conv=>whnf
 rw[<- ha]
 (refine⟨_,_,f1,?_⟩;conv=>whnf)
 refine⟨Nat,Uy w a l,λk=>k<=l.length,λk=>l.length-k,⟨0,Nat.zero_le _,aj.keep ⟨ab,ab,ab,ab,ab,ab,ab,trivial⟩ ⟨ab,trivial⟩⟩,λk hk=>?_⟩
 conv=>whnf
 refine ae (λg2=>?_) (λg2=>?_) <;> (rw[g2];conv=>whnf)
 . have hlt:k<l.length:=by simpa using g2
   obtain⟨n,hn⟩:∃n,l[k]? =some n:=⟨_,ag hlt⟩
   obtain⟨i,h,rfl,hh,hsv⟩:=hin n (aq hn);have hil:=(ar.1 hh).1;have fS:=vS w h.addr a hF hv hva;rw[hsv]at fS;refine⟨av k,bd i,aC hn,?_⟩
   conv=>whnf
   (refine⟨(by kernel_rfl:bf _ _=true),?_⟩;conv=>whnf)
   rw[show decide (((i:Nat):Int)<0)=false from decide_eq_false (by omega)]
   conv=>whnf
   rw[show decide (((i:Nat):Int)>=((w.hosts.map dw).length:Int))=false from decide_eq_false (by rw[ak];omega)]
   conv=>whnf
   have hend:True:=trivial;refine ae (λg3=>?_) (λg3=>?_) <;> (rw[g3];conv=>whnf)
   . have hk0:0<k:=by simpa using g3
     have ew1:IntKind.i64.wrap ((k:Int)-1)=((k-1:Nat):Int):=by rw[wrap_i64 (by omega) (by omega)];omega
     obtain⟨m,hm⟩:∃m,l[k-1]? =some m:=⟨_,ag (by omega)⟩
     have hlt2:m<(i:Int):=by
      obtain⟨h1,h2⟩:=ar.1 hm;obtain⟨h3,h4⟩:=ar.1 hn;have:=List.pairwise_iff_getElem.1 hasc (k-1) k h1 h3 (by omega);rw[h2,h4]at this;exact this
     rw[ew1];refine⟨av _,bd m,aC hm,?_⟩
     conv=>whnf
     rw[show decide (((i:Nat):Int)<=m)=false from decide_eq_false (by omega)]
     conv=>whnf
     refine⟨av _,dw h,aC hh,?_⟩
     conv=>whnf
     (refine⟨_,_,fS,?_⟩;conv=>whnf)
     exact⟨k+1,hlt,by(show l.length-(k+1)<l.length-k;omega),aj.keep ⟨ab,ab,ab,ab,ab,ab,⟨ao (by omega),rfl⟩,trivial⟩ ⟨ab,trivial⟩⟩
   . refine⟨av _,dw h,aC hh,?_⟩
     conv=>whnf
     (refine⟨_,_,fS,?_⟩;conv=>whnf)
     exact⟨k+1,hlt,by(show l.length-(k+1)<l.length-k;omega),aj.keep ⟨ab,ab,ab,ab,ab,ab,⟨ao (by omega),rfl⟩,trivial⟩ ⟨ab,trivial⟩⟩
 . (refine⟨_,_,f2,?_⟩;conv=>whnf)
   (refine⟨_,_,f3,?_⟩;conv=>whnf)
   refine ae (λg4=>?_) (λg4=>?_) <;> (rw[g4];conv=>whnf)
   . exact af rfl rfl
   have hl0:l=[]:=by
    have:l.length=0:=by simpa using g4
    exact List.eq_nil_of_length_eq_zero this
   cases hd:dl with
   |none =>
    conv=>whnf
    exact af rfl rfl
   |some x =>
    rw[hab x hd hl0]at f4
    conv=>whnf
    (refine⟨_,_,f4,?_⟩;conv=>whnf)
    exact af rfl rfl
end Go.Proofs.YtjapjahfllomkaaGreatDoor
namespace NP
open NQ Go
theorem LB{z:aF}(hv:aY z=true):∃s∈z.sets,s.set.name=z.apex/\s.set.type=2/\lD z=s.set.data:=by
 have hs:=(dq.1 hv).serv;rw[<- tv]at hs;unfold lD;cases hf:z.sets.find? (is ⟨z.apex,2⟩)with
 |none=>rw[hf]at hs;cases hs
 |some s =>
  have h2:=List.find?_some hf;simp only[is,aB,beq_iff_eq]at h2;exact⟨s,List.mem_of_find?_eq_some hf,h2.1,h2.2,rfl⟩
end NP
namespace Go.Proofs.YtjapjahfllomkaaGreatDoor
open NQ Go NP Go.RowKit
theorem Gz{z:aF}(hv:aY z=true):∃s∈z.sets,lD z=s.set.data/\NQ.Fn cx 36 [.agg (aW z),.agg [.str z.apex,.int .i64 2]] (.tuple [.agg ((az s).map .d),.d (.bool true),.d (.int .i64 0)]) []:=by
 obtain⟨s,hs,h1,h2,h3⟩:=LB hv;refine⟨s,hs,h3,?_⟩;have:=QI z (qOf s);rw[kA hv hs]at this;rw[<- h1, <- h2];exact this
set_option maxHeartbeats 4000000 in
theorem GJ(hH:yV)(w:ay)(pick:Int)(hpk:(Lit.int .u8 pick).wf=true):NQ.Fn cx 9 [.agg (ba w),.int .u8 pick] (.d (.bool true)) []:=by
 have fU:=od w;cases hu:(iw w&&aK w)with
 |false =>
  rw[hu]at fU;refine aA aO mixed Tryz.func9 (by kernel_rfl) rfl (ah rfl) ?_;conv=>whnf
  (refine⟨_,_,hH,?_⟩;conv=>whnf)
  (refine⟨_,_,fU,?_⟩;conv=>whnf)
  exact af rfl rfl
 |true =>
 rw[hu]at fU;obtain⟨hf,hv⟩:iw w=true/\aK w=true:=by simpa using hu
 obtain⟨hF,hzl⟩:=tr hf;obtain⟨p0,rfl⟩:∃n:Nat,pick=n:=⟨pick.toNat,by have:=(wQ hpk).1;omega⟩
 have hp2:p0<=255:=by have:=(wQ hpk).2;omega
 have hz:∀p∈w.zones,aY p.zone=true:=λp hp=>(bE hv p hp).1
 refine cH (λ_=>[]) aO mixed Tryz.func9 (by kernel_rfl) rfl (ah rfl) ?_
 conv=>whnf
 (refine⟨_,_,hH,?_⟩;conv=>whnf)
 (refine⟨_,_,fU,?_⟩;conv=>whnf)
 refine ae (λg1=>?_) (λg1=>?_) <;> (rw[g1];conv=>whnf)
 . exact af rfl rfl
 have hL0:0<w.zones.length:=by
  have:w.zones≠[]:=by simpa using g1
  exact List.length_pos_iff.2 this
 have hilt:p0 % w.zones.length<w.zones.length:=Nat.mod_lt _ hL0;obtain⟨p,hp⟩:∃p,w.zones[p0 % w.zones.length]? =some p:=⟨_,ag hilt⟩
 have hpm:=aq hp;obtain⟨a,ha⟩:∃a,a=p.zone.apex:=⟨_,rfl⟩
 have hva:au a=true:=by rw[ha];exact(dq.1 (hz p hpm)).ord.apex
 have hc:(aR w.zones a).isSome=true:=by rw[ha];exact iP hpm
 obtain⟨x,hx⟩:=Option.isSome_iff_exists.1 hc;have hxz:=tg w.zones a x hx;obtain⟨c1,c2,_⟩:=cF hx;have f1:=yd w.zones a hz (by omega);rw[hx,show Fu (some x)=((x.1:Nat):Int)from rfl]at f1;have f2:=eV w hF (by omega);have hlen:=sx hF (by omega);have e1:ij w=(fp w,0):=by unfold ij;rw[if_pos hv]
 rw[e1]at f2 hlen;dsimp only at hlen;have f4:=yZ (fp w) a (by omega);have hno:=λh=>Pe hF hv (p:=x.2) (by rw[c2,hx];rfl) h
 rw[c2]at hno;obtain⟨so,hso,hod,f5⟩:=Gz (hz x.2 c1);rw[c2]at f5;rw[hod]at hno;have hdl:=((dv (hF.few x.2 c1)).2 so hso).1;generalize fp w=L at *
 dsimp only at f2
 (refine⟨(by kernel_rfl:bf _ _=true),?_⟩;conv=>whnf)
 have ew:IntKind.i64.wrap (p0:Int)=(p0:Int):=wrap_i64 (by omega) (by omega);have er:=vN (t:=3) (IntKind.i64.wrap (p0:Int)) (((w.zones.map aN).length:Nat):Int) (by rw[ak];omega);have ek:(IntKind.i64.wrap (p0:Int)).tmod (((w.zones.map aN).length:Nat):Int)=((p0 % w.zones.length:Nat):Int):=by
  rw[ew,ak,Int.tmod_eq_emod_of_nonneg (by omega)];rfl
 rw[ek]at er;split
 case h_2 hb=>exact absurd (hb.symm.trans er) (by simp)
 case h_1 hb =>
 cases hb.symm.trans er
 conv=>whnf
 refine⟨av _,aN p,aC hp,?_⟩
 conv=>whnf
 rw[<- ha]
 (refine⟨_,_,f2,?_⟩;conv=>whnf)
 (refine⟨_,_,f1,?_⟩;conv=>whnf)
 rw[show decide (((x.1:Nat):Int)<0)=false from decide_eq_false (by omega)]
 conv=>whnf
 (refine⟨_,_,f4,?_⟩;conv=>whnf)
 cases hab:kj L a with
 |true =>
  conv=>whnf
  exact af rfl rfl
 |false =>
 obtain⟨_,hno⟩:=hno hab
 conv=>whnf
 refine⟨av _,aN x.2,aC hxz,?_⟩
 conv=>whnf
 (refine⟨_,_,f5,?_⟩;conv=>whnf)
 generalize so.set.data=D at *
 refine⟨Nat,λk=>⟨[(2,.ptr 2 0),(5,.d (.bool true)),(6,.d (.str a)),(82,.d (.slice 3 (D.map bt))),(83,.d (.int .i64 ((D.map bt).length:Int))),(84,.d (.int .i64 k))],[(2,.box ((ba w).map .d))]⟩,λk=>k<=D.length,λk=>D.length-k,⟨0,Nat.zero_le _,aj.keep ⟨ab,ab,ab,ab,ab,ab,trivial⟩ ⟨ab,trivial⟩⟩,λk hk=>?_⟩
 conv=>whnf
 refine ae (λg2=>?_) (λg2=>?_) <;> (rw[g2];conv=>whnf)
 . have hlt:k<D.length:=by simpa using g2
   obtain⟨d,hd⟩:∃d,D[k]? =some d:=⟨_,ag hlt⟩
   obtain⟨n1,n2⟩:=hno d (aq hd);have f6:=rq w d.text hF;have hAl:=zb hF hv d.text;rw[show(bD w d.text==[])=false from by simpa using n1]at f6;generalize bD w d.text=A at *
   refine⟨av k,bt d,aC hd,?_⟩
   conv=>whnf
   (refine⟨_,_,f6,?_⟩;conv=>whnf)
   refine⟨Nat,λj=>⟨[(2,.ptr 2 0),(5,.d (.bool true)),(6,.d (.str a)),(82,.d (.slice 3 (D.map bt))),(83,.d (.int .i64 ((D.map bt).length:Int))),(84,.d (.int .i64 k)),(97,.d (.slice 3 (A.map bt))),(98,.d (.int .i64 ((A.map bt).length:Int))),(99,.d (.int .i64 j))],[(2,.box ((ba w).map .d))]⟩,λj=>j<=A.length,λj=>A.length-j,⟨0,Nat.zero_le _,aj.keep ⟨ab,ab,ab,ab,ab,ab,ab,ab,ab,trivial⟩ ⟨ab,trivial⟩⟩,λj hj=>?_⟩
   conv=>whnf
   refine ae (λg3=>?_) (λg3=>?_) <;> (rw[g3];conv=>whnf)
   . have hjt:j<A.length:=by simpa using g3
     obtain⟨y,hy⟩:∃y,A[j]? =some y:=⟨_,ag hjt⟩
     have f7:=vS w y.n a hF hv hva;rw[n2 y (aq hy)]at f7;refine⟨av j,bt y,aC hy,?_⟩
     conv=>whnf
     (refine⟨_,_,f7,?_⟩;conv=>whnf)
     exact⟨j+1,hjt,by(show A.length-(j+1)<A.length-j;omega),aj.keep ⟨ab,ab,ab,ab,ab,ab,ab,ab,⟨ao (by omega),rfl⟩,trivial⟩ ⟨ab,trivial⟩⟩
   . exact⟨k+1,hlt,by(show D.length-(k+1)<D.length-k;omega),aj.keep ⟨ab,ab,ab,ab,ab,⟨ao (by omega),rfl⟩,trivial⟩ ⟨ab,trivial⟩⟩
 . exact af rfl rfl
theorem Tp(w:ay):NQ.Fn cx 4 [.agg (ba w)] (.d (.bool true)) []:=ES qJ w
theorem SL(w:ay)(x:Int)(b:(Lit.int .u8 x).wf=true):NQ.Fn cx 5 [.agg (ba w),.int .u8 x] (.d (.bool true)) []:=CU qJ w x b
theorem RS(w:ay)(x:Int)(b:(Lit.int .u8 x).wf=true):NQ.Fn cx 7 [.agg (ba w),.int .u8 x] (.d (.bool true)) []:=Bk qJ w x b
theorem TS(w:ay)(x:Int)(b:(Lit.int .u8 x).wf=true):NQ.Fn cx 9 [.agg (ba w),.int .u8 x] (.d (.bool true)) []:=GJ qJ w x b
end Go.Proofs.YtjapjahfllomkaaGreatDoor
