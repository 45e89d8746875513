/-
  Merged texts.
-/
import Derived.Test.YtjapjahfllomkaaGreatDoorMGja
import Derived.Shelf.SlIter.Collect
set_option linter.all false
set_option maxRecDepth 100000
namespace NP
open NQ Go
open Go.Proofs.YtjapjahfllomkaaGreatDoor (bg)
def kM(l:List (Bs×Int)):List (List D×D):=l.map λp=>([.str p.1,.int .i64 p.2],.bool true)
theorem yU(a:Bs)(n:Int):∀l:List (Bs×Int),kB [.str,.int .i64] [.str a,.int .i64 n] (kM l)=some (if l.contains (a,n)=true then some (.bool true)else none)
 |[]=>rfl
 |x::l=>by
  show(match cA [.str,.int .i64] [.d (.str a),.d (.int .i64 n)] [.d (.str x.1),.d (.int .i64 x.2)]with|some true=>_|some false=>kB _ _ (kM l)|none=>none)=_
  have:cA [.str,.int .i64] [.d (.str a),.d (.int .i64 n)] [.d (.str x.1),.d (.int .i64 x.2)]=some ((a,n)==x):=by
   show some ((a==x.1)&&((n==x.2)&&true))=_
   rw[gU];rfl
  rw[this,List.contains_cons];cases h:((a,n)==x)with
  |true=>simp
  |false=>simp only[dE];exact yU a n l
theorem Bc{a:Bs}{n:Int}:∀{l:List (Bs×Int)},mH [.str,.int .i64] [.str a,.int .i64 n] (.bool true) (kM l)=some (kM (if l.contains (a,n)=true then l else l++[(a,n)]))
 |[]=>rfl
 |x::l=>by
  show(match cA [.str,.int .i64] [.d (.str a),.d (.int .i64 n)] [.d (.str x.1),.d (.int .i64 x.2)]with|some true=>_|some false=>(mH _ _ _ (kM l)).map _|none=>none)=_
  have:cA [.str,.int .i64] [.d (.str a),.d (.int .i64 n)] [.d (.str x.1),.d (.int .i64 x.2)]=some ((a,n)==x):=by
   show some ((a==x.1)&&((n==x.2)&&true))=_
   rw[gU];rfl
  rw[this,List.contains_cons];cases h:((a,n)==x)with
  |true =>
   have hx:x=(a,n):=(eq_of_beq h).symm;subst hx;simp[kM]
  |false =>
   simp only[dE];rw[Bc (l:=l)];split <;> rfl
def pv(l:List (Bs×Int))(p:Bs×Int):List (Bs×Int):=if l.contains p=true then l else l++[p]
def lO(w:ay)(l:List aq):List (Bs×Int):=l.foldl (λout p=>pv out (mR w p)) []
theorem Fb(w:ay)(l:List aq)(p:aq):lO w (l++[p])=pv (lO w l) (mR w p):=by unfold lO;rw[List.foldl_append];rfl
theorem ES{l:List (Bs×Int)}{p x:Bs×Int}:x∈pv l p ↔ x∈l\/x=p:=by
 unfold pv;split
 . rename_i h;exact⟨.inl,λhx=>hx.elim id λe=>e ▸ cq.1 h⟩
 . simp
theorem AP(w:ay):∀(l:List aq) (out:List (Bs×Int)) (x:Bs×Int),x∈l.foldl (λout p=>pv out (mR w p)) out ↔ x∈out\/ ∃p∈l,mR w p=x
 |[],out,x=>by simp
 |p::t,out,x=>by
  show x∈t.foldl _ (pv out (mR w p)) ↔ _
  rw[AP w t,ES];constructor
  . rintro((h|h)|⟨q,hq,e⟩)
    . exact .inl h
    . exact .inr ⟨p,List.mem_cons_self .., h.symm⟩
    . exact .inr ⟨q,aK _ hq,e⟩
  . rintro(h|⟨q,hq,e⟩)
    . exact .inl (.inl h)
    . rcases List.mem_cons.1 hq with rfl|hq
      . exact .inl (.inr e.symm)
      . exact .inr ⟨q,hq,e⟩
def vd(w:ay):List (Bs×Int):=lO w (ga gZ w.zones)
theorem DP(w:ay)(a:Bs)(n:Int):(vd w).contains (a,n)=bH w a n:=by
 rw[Bool.eq_iff_iff,cq];unfold vd lO bH;rw[AP,List.any_eq_true];have hperm:=jD (py w.zones);constructor
 . rintro(h|⟨p,hp,e⟩)
   . cases h
   . refine⟨p,hperm.mem_iff.1 hp,?_⟩;unfold mR at e;simp only[Prod.mk.injEq]at e;simp[e.1,e.2]
 . rintro⟨p,hp,h⟩;simp only[aC,beq_iff_eq]at h;refine .inr ⟨p,hperm.mem_iff.2 hp,?_⟩;unfold mR;rw[h.1,h.2]
def cg(l:List aq):List (Bs×D):=l.map λp=>(p.zone.apex,.agg (aM p.zone))
theorem kb(a:Bs):∀l:List aq,cM a (cg l)=(l.find? λp=>p.zone.apex==a).map λp=>D.agg (aM p.zone)
 |[]=>rfl
 |p::t=>by
  show(if a=p.zone.apex then _ else cM a (cg t))=_
  by_cases h:a=p.zone.apex
  . rw[if_pos h,List.find?_cons_of_pos (by simp[h])];rfl
  . rw[if_neg h,kb a t,List.find?_cons_of_neg (by simpa using λe=>h e.symm)]
theorem wa{p:aq}:∀{l:List aq},rp l p.zone.apex=false->dC p.zone.apex (.agg (aM p.zone)) (cg l)=cg (l++[p])
 |[],_=>rfl
 |x::t,h=>by
  unfold rp at h;rw[List.any_cons,Bool.or_eq_false_iff]at h;have hne:¬p.zone.apex=x.zone.apex:=λe=>by rw[e]at h;simp at h
  show(if p.zone.apex=x.zone.apex then _ else _::dC _ _ (cg t))=_
  rw[if_neg hne,wa h.2];rfl
theorem w5{w:ay}(h:aU w=true)(a:Bs):(fg w.zones).find? (λp=>p.zone.apex==a)=(ba w.zones a).map (·.2):=by
 have C:=jg h;cases hf:(fg w.zones).find? (λp=>p.zone.apex==a)with
 |none =>
  have hc:=C.copy a;cases hx:ba (fg w.zones) a with
  |none=>rw[hx]at hc;exact hc
  |some x =>
   obtain⟨h1,h2,_⟩:=dB hx;have:=List.find?_eq_none.1 hf x.2 h1;simp[h2]at this
 |some p =>
  have hp:=List.mem_of_find?_eq_some hf;have ha:p.zone.apex=a:=by simpa using List.find?_some hf
  have:=(C.mem p).1 hp;rw[ha]at this;exact this.symm
theorem pJ(a:Bs)(l:List aq):eU (.str a) ((cg l).map cP)=some (cM a (cg l)):=by
 have:∀m:List (Bs×D),eU (.str a) (m.map cP)=some (cM a m):=λm=>by
  induction m with
  |nil=>rfl
  |cons p t ih =>
   obtain⟨b,v⟩:=p;show(match eL (.str a) [.tuple [.str b]]with|some true=>_|some false=>eU (.str a) (t.map cP)|none=>none)=(some (if a=b then some v else cM a t))
   have:eL (.str a) [.tuple [.str b]]=some (a==b):=rfl;rw[this];by_cases h:a=b
   . subst h;simp
   . have:(a==b)=false:=by simp[h]
     rw[this,if_neg h];exact ih
 exact this _
def cH(l:List (Bs×List Int)):List (Bs×D):=l.map λp=>(p.1,.slice 1 (p.2.map bg))
def kV(w:ay)(l:List (Bs×List Int)):Prop:= ∀p∈l,p.2=cW w p.1
def iY(l:List (Bs×List Int))(s:Bs):Option (List Int):=(l.find? λp=>p.1==s).map (·.2)
theorem qZ(s:Bs):∀l:List (Bs×List Int),cM s (cH l)=(iY l s).map λx=>D.slice 1 (x.map bg)
 |[]=>rfl
 |p::t=>by
  show(if s=p.1 then _ else cM s (cH t))=_
  unfold iY;by_cases h:s=p.1
  . rw[if_pos h,List.find?_cons_of_pos (by simp[h])];rfl
  . rw[if_neg h,qZ s t,List.find?_cons_of_neg (by simpa using λe=>h e.symm)];rfl
theorem x4{s:Bs}{x:List Int}:∀{l:List (Bs×List Int)},iY l s=none->dC s (.slice 1 (x.map bg)) (cH l)=cH (l++[(s,x)])
 |[],_=>rfl
 |p::t,h=>by
  unfold iY at h;have hne:¬s=p.1:=λe=>by rw[List.find?_cons_of_pos (by simp[e])]at h;cases h
  rw[List.find?_cons_of_neg (by simpa using λe=>hne e.symm)]at h;show(if s=p.1 then _ else _::dC _ _ (cH t))=_
  rw[if_neg hne,x4 h];rfl
theorem Ap{w:ay}{l:List (Bs×List Int)}(h:kV w l){s:Bs}{x:List Int}(hf:iY l s=some x):x=cW w s:=by
 unfold iY at hf;cases hp:l.find? (λp=>p.1==s)with
 |none=>rw[hp]at hf;cases hf
 |some p =>
  rw[hp]at hf;cases hf;have:=h p (List.mem_of_find?_eq_some hp);show p.2=cW w s
  rw[this,show p.1=s by simpa using List.find?_some hp]
def ka(w:ay)(l:List (Bs×List Int))(s:Bs):List (Bs×List Int):=if (iY l s).isSome=true then l else l++[(s,cW w s)]
theorem tZ{w:ay}{l:List (Bs×List Int)}(h:kV w l)(s:Bs):kV w (ka w l s):=by
 unfold ka;split
 . exact h
 . intro p hp;rcases List.mem_append.1 hp with hp|hp
   . exact h p hp
   . rw[List.mem_singleton]at hp;subst hp;rfl
end NP
namespace Go.Proofs.YtjapjahfllomkaaGreatDoor
open NQ Go NP Go.RowKit
theorem yE(z:az)(hz:z.sets.length<=100000)(hd:∀s∈z.sets,s.set.type=4-> ∃d,s.set.data[0]? =some d):NQ.Fn cx 105 [.agg (aM z)] (.d (.int .i64 (gA z))) []:=by
 refine aB aP mixed Tryz.func105 (by kernel_rfl) rfl (ai rfl) ?_;conv=>whnf
 refine⟨Nat,λk=>⟨[(1,.ptr 1 0),(6,.d (.slice 5 (z.sets.map an))),(7,.d (.int .i64 ((z.sets.map an).length:Int))),(8,.d (.int .i64 k))],[(1,.box ((aM z).map .d))]⟩,λk=>k<=z.sets.length/\(z.sets.take k).find? (λs=>s.set.type==4)=none,λk=>z.sets.length-k,
  ⟨0,⟨Nat.zero_le _,rfl⟩,ag.keep ⟨ab,ab,ab,ab,trivial⟩ ⟨ab,trivial⟩⟩,λk ⟨hk,hno⟩=>?_⟩
 dsimp only at hk hno ⊢
 conv=>whnf
 refine ae (λh1=>?_) (λh1=>?_) <;> (rw[h1];conv=>whnf)
 . have hlt:k<z.sets.length:=by simpa using h1
   obtain⟨s,hs⟩:∃s,z.sets[k]? =some s:=⟨_,ah hlt⟩
   have hsm:=ar hs;have hsplit:z.sets.find? (λs=>s.set.type==4)=(s::z.sets.drop (k+1)).find? (λs=>s.set.type==4):=by
    conv=>lhs;rw[<- List.take_append_drop k z.sets]
    rw[List.find?_append,hno,Option.none_or,drop_cons hs]
   refine⟨au k,an s,aA hs,?_⟩
   conv=>whnf
   refine ae (λh2=>?_) (λh2=>?_) <;> (rw[h2];conv=>whnf)
   . have ht:s.set.type=4:=by simpa using h2
     obtain⟨d,hdd⟩:=hd s hsm ht;refine⟨by decide,bd d,(by show(s.set.data.map bd)[0]? =_;rw[aL,hdd];rfl),?_⟩
     conv=>whnf
     refine af rfl ?_;unfold gA;rw[hsplit,List.find?_cons_of_pos (by exact h2)];dsimp only;rw[hdd];rfl
   . have h2' :(s.set.type==4)=false:=h2;refine⟨k+1,⟨hlt,?_⟩,by(show z.sets.length-(k+1)<z.sets.length-k;omega),ag.keep ⟨ab,ab,ab,⟨ak (by omega),rfl⟩,trivial⟩ ⟨ab,trivial⟩⟩;rw[aV hs,List.find?_append,hno,Option.none_or,List.find?_cons_of_neg (by rw[h2'];simp)];rfl
 . obtain rfl:k=z.sets.length:=by simp at h1;omega
   rw[List.take_length]at hno;refine af rfl ?_;unfold gA;rw[hno];rfl
theorem wO{z:az}(hv:aW z=true):∀s∈z.sets,s.set.type=4-> ∃d,s.set.data[0]? =some d:=λs hs _=>by
 exact qI ((dw.1 hv).ord.set s hs)
theorem Ou(p q:aq)(hp:aW p.zone=true)(hq:aW q.zone=true):NQ.Fn cx 102 [.agg (bn p),.agg (bn q)] (.d (.int .i64 (gZ p q))) []:=by
 have few:∀{z:az},aW z=true->z.sets.length<=100000:=λ{z} h=>by have:=(dw.1 h).ord.few;omega
 refine aB aP mixed Tryz.func102 (by kernel_rfl) rfl (ai rfl) ?_;conv=>whnf
 (refine⟨(by kernel_rfl:bc _ _=true),?_⟩;conv=>whnf)
 (refine⟨_,_,yE q.zone (few hq) (wO hq),?_⟩;conv=>whnf)
 (refine⟨_,_,yE p.zone (few hp) (wO hp),?_⟩;conv=>whnf)
 (refine⟨_,_,oe (gA q.zone) (gA p.zone),?_⟩;conv=>whnf)
 (refine⟨_,_,oe p.host q.host,?_⟩;conv=>whnf)
 (refine⟨_,Hy [db (gA q.zone) (gA p.zone),db p.host q.host] (by simp),rfl,?_⟩;conv=>whnf)
 exact af rfl rfl
theorem mK(s:gG)(hl:s.data.length<=100000):NQ.Fn cx 55 [.agg (mO s)] (.d (.slice 1 ((s.data.map (·.n)).map bg))) []:=by
 refine aB aP mixed Tryz.func55 (by kernel_rfl) rfl (ai rfl) ?_;conv=>whnf
 refine⟨Nat,λk=>⟨[(3,.own 3),(7,.d (.slice 3 (s.data.map bd))),(8,.d (.int .i64 ((s.data.map bd).length:Int))),(9,.d (.int .i64 k))],[(3,.row 3 1 (((s.data.take k).map (·.n)).map bg))]⟩,λk=>k<=s.data.length,λk=>s.data.length-k,
  ⟨0,Nat.zero_le _,(ag.jX 3 3 1 3 1 rfl rfl (by decide)).trans (ag.keep ⟨ab,ab,ab,ab,trivial⟩ ⟨ab,trivial⟩)⟩,λk hk=>?_⟩
 dsimp only at hk ⊢
 conv=>whnf
 refine ae (λh1=>?_) (λh1=>?_) <;> (rw[h1];conv=>whnf)
 . have hlt:k<s.data.length:=by simpa using h1
   obtain⟨d,hd⟩:∃d,s.data[k]? =some d:=⟨_,ah hlt⟩
   refine⟨au k,bd d,aA hd,?_⟩
   conv=>whnf
   refine⟨by(show(((s.data.take k).map (·.n)).map bg).length+1<=_);simp;omega,by(show((((s.data.take k).map (·.n)).map bg).length+1)*8<=_);simp;omega,?_⟩
   conv=>whnf
   refine⟨k+1,hlt,by(show s.data.length-(k+1)<s.data.length-k;omega),ag.keep ⟨ab,ab,ab,⟨ak (by omega),rfl⟩,trivial⟩ ⟨⟨?_,rfl⟩,trivial⟩⟩;rw[aV hd,List.map_append,List.map_append];rfl
 . obtain rfl:k=s.data.length:=by simp at h1;omega
   rw[List.take_length];exact af rfl rfl
theorem Bg{l:List Signed}{a:Bs}{k:Nat}{s:Signed}(h:l[k]? =some s):(((l.take (k+1)).filter λs=>(s.set.name==a)&&(s.set.type==2)).flatMap λs=>s.set.data.map (·.text)) =
 (((l.take k).filter λs=>(s.set.name==a)&&(s.set.type==2)).flatMap λs=>s.set.data.map (·.text))++(if ((s.set.name==a)&&(s.set.type==2))=true then s.set.data.map (·.text)else[]):=by
 rw[aV h,List.filter_append,List.flatMap_append];by_cases hb:((s.set.name==a)&&(s.set.type==2))=true
 . rw[if_pos hb,List.filter_cons_of_pos (by exact hb)];simp
 . rw[if_neg hb,List.filter_cons_of_neg (by exact hb)];simp
theorem oT{z:az}(a:Bs)(hd:∀s∈z.sets,s.set.data.length<=100):∀k,(((z.sets.take k).filter λs=>(s.set.name==a)&&(s.set.type==2)).flatMap λs=>s.set.data.map (·.text)).length<=100*k
 |0=>by simp
 |k+1=>by
  have ih:=oT a hd k;cases hs:z.sets[k]? with
  |none =>
   have:z.sets.length<=k:=by
    rcases Nat.lt_or_ge k z.sets.length with h|h
    . rw[ah h]at hs;cases hs
    . exact h
   rw[List.take_of_length_le (by omega)];rw[List.take_of_length_le this]at ih;omega
  |some s =>
   rw[Bg hs,List.length_append];have:=hd s (ar hs);split
   . rw[aj];omega
   . rw[List.length_nil];omega
set_option maxHeartbeats 1000000 in
theorem ou(z:az)(a:Bs)(hz:z.sets.length<=1000)(hd:∀s∈z.sets,s.set.data.length<=100):NQ.Fn cx 48 [.agg (aM z),.str a] (.d (.slice 1 ((bZ z a).map aJ))) []:=by
 have hlen:=oT (z:=z) a hd;refine aB aP mixed Tryz.func48 (by kernel_rfl) rfl (ai rfl) ?_;conv=>whnf
 refine⟨Nat,λk=>⟨[(1,.d (.str a)),(5,.own 5),(11,.d (.slice 5 (z.sets.map an))),(12,.d (.int .i64 ((z.sets.map an).length:Int))),(13,.d (.int .i64 k))],[(5,.row 9 1 ((((z.sets.take k).filter λs=>(s.set.name==a)&&(s.set.type==2)).flatMap λs=>s.set.data.map (·.text)).map aJ))]⟩,λk=>k<=z.sets.length,λk=>z.sets.length-k,
  ⟨0,Nat.zero_le _,(ag.jX 5 5 1 9 1 rfl rfl (by decide)).trans (ag.keep ⟨ab,ab,ab,ab,ab,trivial⟩ ⟨ab,trivial⟩)⟩,λk hk=>?_⟩
 dsimp only at hk ⊢
 conv=>whnf
 refine ae (λh1=>?_) (λh1=>?_) <;> (rw[h1];conv=>whnf)
 . have hlt:k<z.sets.length:=by simpa using h1
   obtain⟨s,hs⟩:∃s,z.sets[k]? =some s:=⟨_,ah hlt⟩
   have hsnoc:=Bg (a:=a) hs;have hl:=hlen k;have hsd:=hd s (ar hs);generalize hP:(((z.sets.take k).filter λs=>(s.set.name==a)&&(s.set.type==2)).flatMap λs=>s.set.data.map (·.text))=P at *
   generalize hP' :(((z.sets.take (k+1)).filter λs=>(s.set.name==a)&&(s.set.type==2)).flatMap λs=>s.set.data.map (·.text))=P' at *
   have next : ∀ st, ag cx st ⟨[(1, .d (.str a)), (5, .own 5), (11, .d (.slice 5 (z.sets.map an))), (12, .d (.int .i64 ((z.sets.map an).length : Int))), (13, .d (.int .i64 (k + 1 : Nat)))], [(5, .row 9 1 (P'.map aJ))]⟩ ->
       ∃y,y<=z.sets.length/\z.sets.length-y<z.sets.length-k/\ag cx st ⟨[(1,.d (.str a)),(5,.own 5),(11,.d (.slice 5 (z.sets.map an))),(12,.d (.int .i64 ((z.sets.map an).length:Int))),(13,.d (.int .i64 (y:Nat)))],[(5,.row 9 1 ((((z.sets.take y).filter λs=>(s.set.name==a)&&(s.set.type==2)).flatMap λs=>s.set.data.map (·.text)).map aJ))]⟩:=λst h=>⟨k+1,hlt,by omega,by rw[hP'];exact h⟩
   refine⟨au k,an s,aA hs,?_⟩
   conv=>whnf
   refine ae (λh2=>?_) (λh2=>?_) <;> (rw[h2];conv=>whnf)
   case refine_2 =>
    have h2' :(s.set.name==a)=false:=h2;rw[h2',iM,if_neg (by simp),List.append_nil]at hsnoc;rw[hsnoc]at next
    exact next _ (ag.keep ⟨ab,ab,ab,ab,⟨ak (by omega),rfl⟩,trivial⟩ ⟨ab,trivial⟩)
   refine ae (λh3=>?_) (λh3=>?_) <;> (rw[h3];conv=>whnf)
   case refine_2 =>
    have h3' :(s.set.type==2)=false:=h3;rw[h3',gT,if_neg (by simp),List.append_nil]at hsnoc;rw[hsnoc]at next
    exact next _ (ag.keep ⟨ab,ab,ab,ab,⟨ak (by omega),rfl⟩,trivial⟩ ⟨ab,trivial⟩)
   rw[show(s.set.name==a)=true from h2,show(s.set.type==2)=true from h3,if_pos (show(true&&true)=true from rfl)]at hsnoc;refine⟨Nat,λj=>⟨[(1,.d (.str a)),(5,.own 5),(11,.d (.slice 5 (z.sets.map an))),(12,.d (.int .i64 ((z.sets.map an).length:Int))),(13,.d (.int .i64 k)),(30,.d (.slice 3 (s.set.data.map bd))),(31,.d (.int .i64 ((s.set.data.map bd).length:Int))),(32,.d (.int .i64 j))],[(5,.row 9 1 ((P++(s.set.data.take j).map (·.text)).map aJ))]⟩,λj=>j<=s.set.data.length,λj=>s.set.data.length-j,
    ⟨0,Nat.zero_le _,ag.keep ⟨ab,ab,ab,ab,ab,ab,ab,ab,trivial⟩ ⟨⟨by show _=some (Blk.row _ _ ((P++[]).map aJ) _);rw[List.append_nil];rfl,rfl⟩,trivial⟩⟩,λj hj=>?_⟩
   dsimp only at hj ⊢
   conv=>whnf
   refine ae (λh4=>?_) (λh4=>?_) <;> (rw[h4];conv=>whnf)
   . have hjl:j<s.set.data.length:=by simpa using h4
     obtain⟨d,hdd⟩:∃d,s.set.data[j]? =some d:=⟨_,ah hjl⟩
     refine⟨au j,bd d,aA hdd,?_⟩
     conv=>whnf
     refine⟨by(show((P++(s.set.data.take j).map (·.text)).map aJ).length+1<=_);simp;omega,by(show(((P++(s.set.data.take j).map (·.text)).map aJ).length+1)*16<=_);simp;omega,?_⟩
     conv=>whnf
     refine⟨j+1,hjl,by(show s.set.data.length-(j+1)<s.set.data.length-j;omega),ag.keep ⟨ab,ab,ab,ab,ab,ab,ab,⟨ak (by omega),rfl⟩,trivial⟩ ⟨⟨?_,rfl⟩,trivial⟩⟩;have e:(P++(s.set.data.take (j+1)).map (·.text)).map aJ=(P++(s.set.data.take j).map (·.text)).map aJ++[aJ d.text]:=by rw[aV hdd];simp
     rw[e];rfl
   . obtain rfl:j=s.set.data.length:=by simp at h4;omega
     rw[List.take_length, <- hsnoc];exact next _ (ag.keep ⟨ab,ab,ab,ab,⟨ak (by omega),rfl⟩,trivial⟩ ⟨ab,trivial⟩)
 . obtain rfl:k=z.sets.length:=by simp at h1;omega
   rw[List.take_length];exact af rfl rfl
def qm(f:Fnd):Prop:=ao f.zone=true/\ao f.name=true
theorem Et(a b:Fnd)(ha:qm a)(hb:qm b):NQ.Fn cx 58 [.agg (bD a),.agg (bD b)] (.d (.int .i64 (eB a b))) []:=by
 have e1:=oV a.zone b.zone;have e2:=oV a.name b.name;rw[show cC a.zone b.zone=(aH a.zone b.zone,0) by unfold cC;rw[if_pos ⟨ha.1,hb.1⟩]]at e1;rw[show cC a.name b.name=(aH a.name b.name,0) by unfold cC;rw[if_pos ⟨ha.2,hb.2⟩]]at e2;refine aB aP mixed Tryz.func58 (by kernel_rfl) rfl (ai rfl) ?_;conv=>whnf
 (refine⟨_,_,e1,?_⟩;conv=>whnf)
 (refine⟨_,_,e2,?_⟩;conv=>whnf)
 (refine⟨_,_,oe a.kind b.kind,?_⟩;conv=>whnf)
 (refine⟨_,Hy [db a.kind b.kind,aH a.zone b.zone,aH a.name b.name] (by simp),rfl,?_⟩;conv=>whnf)
 exact af rfl rfl
end Go.Proofs.YtjapjahfllomkaaGreatDoor
namespace NP
open NQ Go
def placeOf:List D->Int×Int
 | .int _ h:: .str _:: .slice _ rows::_=>(h,match rows.find? (λr=>match r with|_:: .int _ t::_=>t==4|_=>false)with
  |some (_::_::_:: .slice _ ((_:: .int _ n::_)::_)::_)=>n
  |_=>0)
 |_=>(0,0)
def GC(x y:List D):Int:=jK [db (placeOf y).2 (placeOf x).2,db (placeOf x).1 (placeOf y).1]
theorem yK(p:aq):placeOf (bn p)=(p.host,gA p.zone):=by
 obtain⟨h,a,l⟩:=p;unfold placeOf bn gA;dsimp only
 congr 1
 have e:(l.map an).find? (λr=>match r with|_:: .int _ t::_=>t==4|_=>false)=(l.find? λs=>s.set.type==4).map an:=by
  rw[List.find?_map];rfl
 rw[e];cases l.find? (λs=>s.set.type==4)with
 |none=>rfl
 |some s =>
  obtain⟨⟨n,t,li,da⟩,sg⟩:=s;cases da with
  |nil=>rfl
  |cons d r=>rfl
theorem w8(p q:aq):GC (bn p) (bn q)=gZ p q:=by unfold GC;rw[yK,yK];rfl
def Pf(w:ay):List AV:=(bw (ub w)).map .d++[.d (.kmap ((cg (fg w.zones)).map cP)),.d (.kmap (kM (vd w)))]
def c7(w:ay)(F:Nat):List AV:=Pf w++[.omap F]
end NP
namespace Go.Proofs.YtjapjahfllomkaaGreatDoor
open NQ Go NP Go.RowKit
noncomputable def cxC:Cx:={cx with chg:=λg=>match Nat.beq g 101 with|true=>2|false=>cx.chg g}
theorem tyC:bq cxC:=aP
theorem PB:cxC.P.follows .mixedOrders=true:=mixed
theorem Kq(l:List aq)(hv:∀p∈l,aW p.zone=true)(hl:l.length<=100000)(fl:Bool):FnR cx 101 false 45 3 (l.map bn) fl [.fn 102 [] []] ((ga gZ l).map bn):=by
 rw[<- Bd bn gZ GC l λx _ y _=>w8 x y];exact DT (cx:=cx) (ρ:=Tryz.wK) Tryz.OQ (k:=3) Tryz.isAgg45 Tryz.sizeOf45 ⟨_,Tryz.func101,by kernel_rfl,rfl⟩
  (λx hx y hy=>by
   obtain⟨a,ha,rfl⟩:=List.mem_map.1 hx;obtain⟨b,hb,rfl⟩:=List.mem_map.1 hy;rw[w8];exact Ou a b (hv a ha) (hv b hb)) (enters_of Tryz.func102 (by kernel_rfl) rfl) ((py l).map λx _ y _=>w8 x y) (by rw[aj];omega)
def fzC:Nat->List Nat
 |3=>[88888]
 |5=>[23]
 |8=>[66666]
 |14=>[16,17,200]
 |_=>[]
set_option maxHeartbeats 4000000 in
theorem uU(w:ay)(hF:cU w)(hv:aU w=true):NQ.Fn cx 44 [.agg (bw w)] (.agg (c7 w 18)) [(18,.smap [])]:=by
 show NQ.Fn cxC _ _ _ _
 have hZ:=bS hv;have hzl:=hF.zones;have hS:=λfl=>Kq w.zones (λp hp=>(hZ p hp).1) (by omega) fl
 have hperm:=jD (py w.zones);have hcen:fg w.zones=j5 (ga gZ w.zones):=rfl;have hsit:vd w=lO w (ga gZ w.zones):=rfl;unfold c7 Pf ub IE;rw[hcen,hsit];generalize ga gZ w.zones=L at *
 have hLm:∀p∈L,p∈w.zones:=λp hp=>hperm.subset hp
 have hLl:L.length=w.zones.length:=hperm.length_eq;refine cK fzC tyC PB Tryz.func44 (by kernel_rfl) rfl (ai rfl) ?_
 conv=>whnf
 refine⟨au _,.inl rfl,au _,by(show((w.zones.map bn).length:Int).toNat*48<=_;rw[aj];omega),by(show((w.zones.map bn).length:Int)<=_;rw[aj];omega),?_⟩
 conv=>whnf
 refine⟨by(show(w.zones.map bn).length=_;rw[List.length_replicate];rfl),?_⟩
 conv=>whnf
 refine⟨_,hS _,?_⟩
 conv=>whnf
 refine ⟨Nat, fun k => ⟨[(1, .ptr 1 0), (2, .ptr 2 0), (3, .ptr 3 0), (30, .d (.slice 3 (L.map bn))), (31, .d (.int .i64 ((L.map bn).length : Int))), (32, .d (.int .i64 k))],
     [(1,.box ((bw w).map .d)),(2,.box [.nil 3,.nil 3,.d (.str []),.d (.int .i64 0),.d (.int .i64 0),.nil 3,.nil 1,.d .nmap,.d .nmap,.d .nmap]),(3,.box (.d (.slice 3 (w.hosts.map dV)):: .own 200::(((bw w).drop 2).map .d++[.omap 16,.omap 17,.omap 18]))),(200,.row 45 3 ((j5 (L.take k)).map bn)),(16,.smap (cg (j5 (L.take k)))),(17,.kmap (kM (lO w (L.take k)))),(18,.smap [])]⟩,
  λk=>k<=L.length,λk=>L.length-k,⟨0,Nat.zero_le _,(ag.s6 3 1 200 3 (.d (.slice 3 (w.hosts.map dV)):: .nil 3::(((bw w).drop 2).map .d++[.omap 16,.omap 17,.omap 18])) 45 3 rfl rfl rfl (by decide)).trans (ag.keep ⟨ab,ab,ab,ab,ab,ab,trivial⟩ ⟨ab,ab,ab,ab,ab,ab,ab,trivial⟩)⟩,λk hk=>?_⟩
 dsimp only at hk ⊢
 conv=>whnf
 refine ae (λh1=>?_) (λh1=>?_) <;> (rw[h1];conv=>whnf)
 . have hlt:k<L.length:=by simpa using h1
   obtain⟨p,hp⟩:∃p,L[k]? =some p:=⟨_,ah hlt⟩
   obtain⟨_,h0,hh⟩:=hZ p (hLm p (ar hp));obtain⟨hk',hke⟩:∃j:Nat,p.host=(j:Int):=⟨p.host.toNat,by omega⟩
   obtain⟨h,hhk⟩:∃h,w.hosts[hk']? =some h:=⟨_,ah (by omega)⟩
   have haddr:mR w p=(p.zone.apex,h.addr):=by unfold mR addrOf;rw[hke,Int.toNat_natCast,hhk]
   have hput:mH [.str,.int .i64] [.str p.zone.apex,.int .i64 h.addr] (.bool true) (kM (lO w (L.take k)))=some (kM (lO w (L.take (k+1)))):=by
    rw[Bc,aV hp,Fb,haddr];rfl
   have hcf:=kb p.zone.apex (j5 (L.take k));have hpk:j5 (L.take (k+1))=cm (j5 (L.take k)) p:=by rw[aV hp,H3]
   have hpl:(j5 (L.take k)).length<=L.length:=by
    have:=ra (L.take k) [];rw[List.length_take]at this;have h2:(j5 (L.take k)).length<=0+min k L.length:=this;omega
   generalize hP:j5 (L.take k)=P at *
   generalize hS1:lO w (L.take (k+1))=S1 at *
   refine⟨au k,bn p,aA hp,?_⟩
   conv=>whnf
   have hget:(w.hosts.map dV)[p.host.toNat]? =some (dV h):=by rw[hke,Int.toNat_natCast,aL,hhk];rfl
   (refine⟨(by kernel_rfl:gV _=true),?_⟩;conv=>whnf)
   repeat' (first
    |(refine⟨h0,dV h,hget,?_⟩;conv=>whnf)
    |(refine⟨_,hput,?_⟩;conv=>whnf)
    |(refine⟨by kernel_rfl,?_⟩;conv=>whnf)
    |(refine⟨?_,?_⟩ <;> (conv=>whnf))
    |fail)
   all_goals
    cases hq:P.find? (λx=>x.zone.apex==p.zone.apex)with
    |some q =>
     rw[hq]at hcf;have hcf:cM p.zone.apex (cg P)=some (.agg (aM q.zone)):=hcf;have hhas:rp P p.zone.apex=true:=by unfold rp;rw[List.any_eq_true];exact⟨q,List.mem_of_find?_eq_some hq,by have h9:=List.find?_some hq;exact h9⟩
     rw[hcf]
     conv=>whnf
     refine⟨k+1,hlt,by(show L.length-(k+1)<L.length-k;omega),ag.keep ⟨ab,ab,ab,ab,ab,⟨ak (by omega),rfl⟩,trivial⟩ ⟨ab,ab,ab,⟨?_,rfl⟩,⟨?_,rfl⟩,⟨?_,rfl⟩,ab,trivial⟩⟩
     . rw[hpk];unfold cm;rw[if_pos hhas];rfl
     . rw[hpk];unfold cm;rw[if_pos hhas];rfl
     . rw[hS1];rfl
    |none =>
     rw[hq]at hcf;have hcf:cM p.zone.apex (cg P)=none:=hcf;have hhas:rp P p.zone.apex=false:=by
      unfold rp;rw[List.any_eq_false];exact List.find?_eq_none.1 hq
     rw[hcf]
     conv=>whnf
     refine⟨by(show(P.map bn).length+1<=_);rw[aj];omega,by(show((P.map bn).length+1)*48<=_);rw[aj];omega,?_⟩
     conv=>whnf
     refine⟨k+1,hlt,by(show L.length-(k+1)<L.length-k;omega),ag.keep ⟨ab,ab,ab,ab,ab,⟨ak (by omega),rfl⟩,trivial⟩ ⟨ab,ab,ab,⟨?_,rfl⟩,⟨?_,rfl⟩,⟨?_,rfl⟩,ab,trivial⟩⟩
     . rw[hpk];unfold cm;rw[if_neg (by rw[hhas];simp),List.map_append];rfl
     . rw[hpk];unfold cm;rw[if_neg (by rw[hhas];simp), <- wa hhas];rfl
     . rw[hS1];rfl
 . obtain rfl:k=L.length:=by simp at h1;omega
   rw[List.take_length];exact tc (bs:=[(18,.smap [])]) rfl rfl ⟨⟨rfl,rfl⟩,trivial⟩
end Go.Proofs.YtjapjahfllomkaaGreatDoor
namespace NP
open NQ Go
def GA(w:ay)(m:List (Bs×List Int)):List D:=bw (ub w)++[.kmap ((cg (fg w.zones)).map cP),.kmap (kM (vd w)),.kmap ((cH m).map cP)]
theorem tR(zs:List aq)(f:Nat)(s:Bs):iW zs (f+1) s=if s=[46]then none else if (ba zs (bu s)).isSome=true then some (bu s)else iW zs f (bu s):=rfl
theorem qU{A:Ans×Int}(h:¬(A.2=0/\(A.1.kind=1\/A.1.kind=2))):gY A=[]:=by unfold gY;rw[if_neg h]
def iR(l:List Signed):List Datum:=match (l.filter λs=>s.set.type==1).getLast? with|some s=>s.set.data|none=>[]
theorem gM{l:List Signed}{k:Nat}{s:Signed}(h:l[k]? =some s):iR (l.take (k+1))=if (s.set.type==1)=true then s.set.data else iR (l.take k):=by
 unfold iR;rw[aV h,List.filter_append];by_cases hb:(s.set.type==1)=true
 . rw[if_pos hb,List.filter_cons_of_pos (by exact hb)];simp
 . rw[if_neg hb,List.filter_cons_of_neg (by exact hb)];simp
theorem lJ{A:Ans×Int}(h:A.2=0/\(A.1.kind=1\/A.1.kind=2)):gY A=iR A.1.sets:=by unfold gY;rw[if_pos h];rfl
end NP
namespace Go.Proofs.YtjapjahfllomkaaGreatDoor
open NQ Go NP Go.RowKit
theorem A7(w:ay)(m:List (Bs×List Int))(a:Bs)(n:Int):NQ.Fn cx 52 [.agg (GA w m),.str a,.int .i64 n] (.d (.bool (bH w a n))) []:=by
 refine aB aP mixed Tryz.func52 (by kernel_rfl) rfl (ai rfl) ?_;conv=>whnf
 refine⟨_,yU a n _,?_⟩;rw[DP];cases bH w a n with
 |true =>
  conv=>whnf
  exact af rfl rfl
 |false =>
  conv=>whnf
  exact af rfl rfl
theorem Dn(w:ay)(m:List (Bs×List Int))(a:Bs)(n:Int):NQ.Fn cx 51 [.int .i64 n,.ptr (GA w m),.ptr [.str a]] (.d (.bool (!bH w a n))) []:=by
 refine aB aP mixed Tryz.func51 (by kernel_rfl) rfl (ai rfl) ?_;conv=>whnf
 (refine⟨_,_,A7 w m a n,?_⟩;conv=>whnf)
 exact af rfl rfl
theorem G8(l:List Int)(p:Int->Bool)(x y:D)(hn:l.length<=100000)(hf:∀s∈l,NQ.Fn cx 51 [.int .i64 s,x,y] (.d (.bool (p s))) []) :
 NQ.Fn cx 106 [.slice 1 (l.map bg),.fn 51 [] [x,y]] (.d (.int .i64 (match l.findIdx? p with|some k=>(k:Int)|none=> -1))) []:=by
 refine aB aP mixed Tryz.func106 (by kernel_rfl) rfl (ai rfl) ?_;conv=>whnf
 refine⟨Nat,λk=>⟨[(0,.d (.slice 1 (l.map bg))),(1,.d (.fn 51 [] [x,y])),(6,.d (.slice 1 (l.map bg))),(7,.d (.int .i64 ((l.map bg).length:Int))),(8,.d (.int .i64 k))],[]⟩,λk=>k<=l.length/\ ∀j y,j<k->l[j]? =some y->p y=false,λk=>l.length-k,
  ⟨0,⟨by omega,λj y h=>by omega⟩,ag.keep ⟨ab,ab,ab,ab,ab,trivial⟩ trivial⟩,λk hk=>?_⟩
 obtain⟨hk,hall⟩:=hk
 conv=>whnf
 refine ae (λh1=>?_) (λh1=>?_) <;> (rw[h1];conv=>whnf)
 . have hlt:k<l.length:=by simp at h1;omega
   obtain⟨s,hs⟩:∃s,l[k]? =some s:=⟨_,ah hlt⟩
   refine⟨au k,bg s,aA hs,?_⟩
   conv=>whnf
   (refine⟨_,_,hf s (ar hs),?_⟩;conv=>whnf)
   refine ae (λh2=>?_) (λh2=>?_) <;> (rw[h2];conv=>whnf)
   . refine af rfl ?_;have:l.findIdx? p=some k:=by
      rw[List.findIdx?_eq_some_iff_getElem];obtain⟨g1,g2⟩:=av.1 hs;refine⟨g1,by rw[g2];exact h2,λj hj=>?_⟩;have:=hall j (l[j]) hj (ah (by omega));rw[this];decide
     rw[this];rfl
   . refine⟨k+1,⟨hlt,λj y hj hy=>?_⟩,by(show l.length-(k+1)<l.length-k;omega),ag.keep ⟨ab,ab,ab,ab,⟨ak (by omega),rfl⟩,trivial⟩ trivial⟩;rcases Nat.lt_succ_iff_lt_or_eq.1 hj with hj|rfl
     . exact hall j y hj hy
     . rw[hs]at hy;cases hy;exact h2
 . obtain rfl:k=l.length:=by simp at h1;omega
   refine af rfl ?_;have:l.findIdx? p=none:=by
    rw[List.findIdx?_eq_none_iff];intro x hx;obtain⟨i,hi⟩:=cE hx;exact hall i x (av.1 hi).1 hi
   rw[this];rfl
theorem Gn(w:ay)(m:List (Bs×List Int))(a:Bs)(l:List Int)(hl:l.length<=100000):NQ.Fn cx 50 [.slice 1 (l.map bg),.fn 51 [] [.ptr (GA w m),.ptr [.str a]]] (.d (.bool (l.any λn=> !bH w a n))) []:=by
 refine aB aP mixed Tryz.func50 (by kernel_rfl) rfl (ai rfl) ?_;conv=>whnf
 (refine⟨_,_,G8 l (λn=> !bH w a n) _ _ hl (λs _=>Dn w m a s),?_⟩;conv=>whnf)
 refine af rfl ?_;show AV.d (D.bool (decide ((match l.findIdx? (λn=> !bH w a n)with|some k=>(k:Int)|none=> -1)>=0)))=_
 congr 2
 cases h:l.findIdx? (λn=> !bH w a n)with
 |some k =>
  obtain⟨h1,h2,_⟩:=List.findIdx?_eq_some_iff_getElem.1 h;rw[decide_eq_true (au k)];exact(List.any_eq_true.2 ⟨_,List.getElem_mem h1,h2⟩).symm
 |none =>
  symm
  show(l.any λn=> !bH w a n)=false
  rw[List.any_eq_false];intro x hx;have:=List.findIdx?_eq_none_iff.1 h x hx;simpa using this
noncomputable def cxF:Cx:={cx with chg:=λg=>match Nat.beq g 46 with|true=>6|false=>(match Nat.beq g 49 with|true=>6|false=>(match Nat.beq g 45 with|true=>6|false=>cx.chg g))}
theorem tyF:bq cxF:=aP
theorem pW:cxF.P.follows .mixedOrders=true:=mixed
def hCA(w:ay)(m:List (Bs×List Int)):List (Nat×Blk):=[(100004,.box (c7 w 18)),(18,.smap (cH m))]
set_option maxHeartbeats 2000000 in
theorem DQ(w:ay)(m:List (Bs×List Int))(a:Bs)(hF:cU w)(hv:aU w=true)(ha:ao a=true):FnH cxF 46 [.agg (c7 w 18),.d (.str a)] (hCA w m) (.tuple [.d (.slice 1 ((bF w.zones a).1.map aJ)),.d (.bool (bF w.zones a).2)]) (hCA w m):=by
 have hg:kT w.zones:=λp hp=>⟨hF.few p hp,(bS hv p hp).1⟩
 have hT:∀{b:Bs} {x:Nat×aq},ba w.zones b=some x-> ∀s,NQ.Fn cx 48 [.agg (aM x.2.zone),.str s] (.d (.slice 1 ((bZ x.2.zone s).map aJ))) []:=λ{b x} h s=>by
  have h1:=(dB h).1;have h2:=cS (hg _ h1).1;exact ou x.2.zone s (by omega) λs hs=>by have:=(h2.2 s hs).1;omega
 have hfind:∀b,eU (.str b) ((cg (fg w.zones)).map cP)=some ((ba w.zones b).map λx=>D.agg (aM x.2.zone)):=λb=>by
  rw[pJ,kb,w5 hv];cases ba w.zones b <;> rfl
 refine kZ (λ_=>[]) tyF pW Tryz.func46 (by kernel_rfl) rfl (ai rfl) (ai rfl) ?_
 conv=>whnf
 refine⟨Nat×Bs,λx=>⟨[(1,.d (.str a)),(2,.ptr 2 0),(6,.d (.str x.2))],(2,.box (c7 w 18))::hCA w m⟩,λx=>ao x.2=true/\(aT x.2).length<x.1/\iW w.zones x.1 x.2=dq w.zones a,λx=>x.1,
  ⟨((aT a).length+1,a),⟨ha,Nat.lt_succ_self _,rfl⟩,ag.keep ⟨ab,ab,ab,trivial⟩ ⟨ab,ab,ab,trivial⟩⟩,λ⟨f,b⟩ ⟨hbv,hf,hinv⟩=>?_⟩
 dsimp only at hbv hf hinv ⊢;obtain⟨f,rfl⟩:∃g,f=g+1:=⟨f-1,by omega⟩
 rw[tR]at hinv
 conv=>whnf
 refine ae (λh1=>?_) (λh1=>?_) <;> (rw[h1];conv=>whnf)
 . have hne:b≠[46]:=by simpa using h1
   rw[if_neg hne]at hinv;have fP:=nZ b;rw[show dN b=(bu b,0) by unfold dN;rw[if_pos hbv,if_neg hne]]at fP
   (refine⟨_,_,fP,?_⟩;conv=>whnf)
   refine⟨_,hfind (bu b),?_⟩;cases hc:ba w.zones (bu b)with
   |some x =>
    rw[hc]at hinv;have hinv:some (bu b)=dq w.zones a:=hinv
    conv=>whnf
    (refine⟨_,_,hT hc a,?_⟩;conv=>whnf)
    have e:bF w.zones a=(bZ x.2.zone a,decide (0<(bZ x.2.zone a).length)):=by
     unfold bF;rw[<- hinv];unfold fX;dsimp only;rw[hc]
    rw[e];have hd:decide ((((bZ x.2.zone a).map aJ).length:Int)>0)=decide (0<(bZ x.2.zone a).length):=by rw[aj];congr 1;simp
    refine⟨[(4,.d (.slice 1 ((bZ x.2.zone a).map aJ))),(5,.d (.bool (decide (0<(bZ x.2.zone a).length))))],ag.keep ⟨ab,⟨by rw[<- hd];rfl,rfl⟩,trivial⟩ ⟨ab,ab,trivial⟩,rfl⟩
   |none =>
    rw[hc]at hinv;have hinv:iW w.zones f (bu b)=dq w.zones a:=hinv;obtain⟨_,_,h3⟩:=iP hbv (kN b) hne
    conv=>whnf
    exact⟨(f,bu b),⟨dR hbv,by dsimp only;omega,hinv⟩,by(show f<f+1;omega),ag.keep ⟨ab,ab,ab,trivial⟩ ⟨ab,ab,ab,trivial⟩⟩
 . have hb:b=[46]:=by simpa using h1
   rw[if_pos hb]at hinv;have hinv:none=dq w.zones a:=hinv;refine ae (λh2=>?_) (λh2=>?_) <;> (rw[h2];conv=>whnf)
   . have hne:a≠[46]:=by simpa using h2
     have e:bF w.zones a=([],false):=by unfold bF;rw[<- hinv];dsimp only;rw[if_neg hne]
     rw[e];exact⟨[(4,.d (.slice 1 [])),(5,.d (.bool false))],(ag.pX 4 1 rfl).trans (ag.keep ⟨ab,ab,trivial⟩ ⟨ab,ab,trivial⟩),rfl⟩
   . have ha46:a=[46]:=by simpa using h2
     refine⟨_,hfind a,?_⟩;cases hc:ba w.zones a with
     |some x =>
      conv=>whnf
      (refine⟨_,_,hT hc a,?_⟩;conv=>whnf)
      have e:bF w.zones a=(bZ x.2.zone a,true):=by unfold bF;rw[<- hinv];dsimp only;rw[if_pos ha46];unfold fX;rw[hc]
      rw[e];exact⟨[(4,.d (.slice 1 ((bZ x.2.zone a).map aJ))),(5,.d (.bool true))],ag.keep ⟨ab,ab,trivial⟩ ⟨ab,ab,trivial⟩,rfl⟩
     |none =>
      conv=>whnf
      (refine⟨_,_,ou ⟨[],[]⟩ a (by simp) (λs hs=>by cases hs),?_⟩;conv=>whnf)
      have e:bF w.zones a=([],true):=by unfold bF;rw[<- hinv];dsimp only;rw[if_pos ha46];unfold fX;rw[hc]
      rw[e];exact⟨[(4,.d (.slice 1 [])),(5,.d (.bool true))],ag.keep ⟨ab,ab,trivial⟩ ⟨ab,ab,trivial⟩,rfl⟩
def hCB(w:ay)(m:List (Bs×List Int)):List (Nat×Blk):=[(100006,.box (c7 w 18)),(18,.smap (cH m))]
set_option maxHeartbeats 2000000 in
theorem DR(w:ay)(m:List (Bs×List Int))(a:Bs)(hF:cU w)(hv:aU w=true)(ha:ao a=true):FnH cxF 46 [.agg (c7 w 18),.d (.str a)] (hCB w m) (.tuple [.d (.slice 1 ((bF w.zones a).1.map aJ)),.d (.bool (bF w.zones a).2)]) (hCB w m):=by
 have hg:kT w.zones:=λp hp=>⟨hF.few p hp,(bS hv p hp).1⟩
 have hT:∀{b:Bs} {x:Nat×aq},ba w.zones b=some x-> ∀s,NQ.Fn cx 48 [.agg (aM x.2.zone),.str s] (.d (.slice 1 ((bZ x.2.zone s).map aJ))) []:=λ{b x} h s=>by
  have h1:=(dB h).1;have h2:=cS (hg _ h1).1;exact ou x.2.zone s (by omega) λs hs=>by have:=(h2.2 s hs).1;omega
 have hfind:∀b,eU (.str b) ((cg (fg w.zones)).map cP)=some ((ba w.zones b).map λx=>D.agg (aM x.2.zone)):=λb=>by
  rw[pJ,kb,w5 hv];cases ba w.zones b <;> rfl
 refine kZ (λ_=>[]) tyF pW Tryz.func46 (by kernel_rfl) rfl (ai rfl) (ai rfl) ?_
 conv=>whnf
 refine⟨Nat×Bs,λx=>⟨[(1,.d (.str a)),(2,.ptr 2 0),(6,.d (.str x.2))],(2,.box (c7 w 18))::hCB w m⟩,λx=>ao x.2=true/\(aT x.2).length<x.1/\iW w.zones x.1 x.2=dq w.zones a,λx=>x.1,
  ⟨((aT a).length+1,a),⟨ha,Nat.lt_succ_self _,rfl⟩,ag.keep ⟨ab,ab,ab,trivial⟩ ⟨ab,ab,ab,trivial⟩⟩,λ⟨f,b⟩ ⟨hbv,hf,hinv⟩=>?_⟩
 dsimp only at hbv hf hinv ⊢;obtain⟨f,rfl⟩:∃g,f=g+1:=⟨f-1,by omega⟩
 rw[tR]at hinv
 conv=>whnf
 refine ae (λh1=>?_) (λh1=>?_) <;> (rw[h1];conv=>whnf)
 . have hne:b≠[46]:=by simpa using h1
   rw[if_neg hne]at hinv;have fP:=nZ b;rw[show dN b=(bu b,0) by unfold dN;rw[if_pos hbv,if_neg hne]]at fP
   (refine⟨_,_,fP,?_⟩;conv=>whnf)
   refine⟨_,hfind (bu b),?_⟩;cases hc:ba w.zones (bu b)with
   |some x =>
    rw[hc]at hinv;have hinv:some (bu b)=dq w.zones a:=hinv
    conv=>whnf
    (refine⟨_,_,hT hc a,?_⟩;conv=>whnf)
    have e:bF w.zones a=(bZ x.2.zone a,decide (0<(bZ x.2.zone a).length)):=by
     unfold bF;rw[<- hinv];unfold fX;dsimp only;rw[hc]
    rw[e];have hd:decide ((((bZ x.2.zone a).map aJ).length:Int)>0)=decide (0<(bZ x.2.zone a).length):=by rw[aj];congr 1;simp
    refine⟨[(4,.d (.slice 1 ((bZ x.2.zone a).map aJ))),(5,.d (.bool (decide (0<(bZ x.2.zone a).length))))],ag.keep ⟨ab,⟨by rw[<- hd];rfl,rfl⟩,trivial⟩ ⟨ab,ab,trivial⟩,rfl⟩
   |none =>
    rw[hc]at hinv;have hinv:iW w.zones f (bu b)=dq w.zones a:=hinv;obtain⟨_,_,h3⟩:=iP hbv (kN b) hne
    conv=>whnf
    exact⟨(f,bu b),⟨dR hbv,by dsimp only;omega,hinv⟩,by(show f<f+1;omega),ag.keep ⟨ab,ab,ab,trivial⟩ ⟨ab,ab,ab,trivial⟩⟩
 . have hb:b=[46]:=by simpa using h1
   rw[if_pos hb]at hinv;have hinv:none=dq w.zones a:=hinv;refine ae (λh2=>?_) (λh2=>?_) <;> (rw[h2];conv=>whnf)
   . have hne:a≠[46]:=by simpa using h2
     have e:bF w.zones a=([],false):=by unfold bF;rw[<- hinv];dsimp only;rw[if_neg hne]
     rw[e];exact⟨[(4,.d (.slice 1 [])),(5,.d (.bool false))],(ag.pX 4 1 rfl).trans (ag.keep ⟨ab,ab,trivial⟩ ⟨ab,ab,trivial⟩),rfl⟩
   . have ha46:a=[46]:=by simpa using h2
     refine⟨_,hfind a,?_⟩;cases hc:ba w.zones a with
     |some x =>
      conv=>whnf
      (refine⟨_,_,hT hc a,?_⟩;conv=>whnf)
      have e:bF w.zones a=(bZ x.2.zone a,true):=by unfold bF;rw[<- hinv];dsimp only;rw[if_pos ha46];unfold fX;rw[hc]
      rw[e];exact⟨[(4,.d (.slice 1 ((bZ x.2.zone a).map aJ))),(5,.d (.bool true))],ag.keep ⟨ab,ab,trivial⟩ ⟨ab,ab,trivial⟩,rfl⟩
     |none =>
      conv=>whnf
      (refine⟨_,_,ou ⟨[],[]⟩ a (by simp) (λs hs=>by cases hs),?_⟩;conv=>whnf)
      have e:bF w.zones a=([],true):=by unfold bF;rw[<- hinv];dsimp only;rw[if_pos ha46];unfold fX;rw[hc]
      rw[e];exact⟨[(4,.d (.slice 1 [])),(5,.d (.bool true))],ag.keep ⟨ab,ab,trivial⟩ ⟨ab,ab,trivial⟩,rfl⟩
end Go.Proofs.YtjapjahfllomkaaGreatDoor
namespace NP
open NQ Go
open Go.Proofs.YtjapjahfllomkaaGreatDoor (bg)
theorem xZ{w:ay}{m:List (Bs×List Int)}{s:Bs}{x:List Int}(h:iY m s=some x):ka w m s=m:=by unfold ka;rw[h];rfl
theorem x3{w:ay}{m:List (Bs×List Int)}{s:Bs}(h:iY m s=none):dC s (.slice 1 ((cW w s).map bg)) (cH m)=cH (ka w m s):=by
 rw[x4 h];unfold ka;rw[h];rfl
end NP
namespace Go.Proofs.YtjapjahfllomkaaGreatDoor
open NQ Go NP Go.RowKit
def Px:Nat->List Nat
 |13=>[55555]
 |_=>[]
set_option maxHeartbeats 2000000 in
theorem rL(w:ay)(m:List (Bs×List Int))(s:Bs)(hF:cU w)(hv:aU w=true)(hm:kV w m):FnH cxF 49 [.agg (c7 w 18),.d (.str s)] (hCA w m) (.d (.slice 1 ((cW w s).map bg))) (hCA w (ka w m s)):=by
 have fT:=D1 (ub w) ⟨s,1⟩ (FD hF hv);rw[Ar hv]at fT;have hsm:=nV hF ⟨s,1⟩;have hput:=x3 (w:=w) (m:=m) (s:=s);have hhit:∀x,iY m s=some x->x=cW w s:=λx h=>Ap hm h
 have hadr:cW w s=(gY (cN w ⟨s,1⟩)).map (·.n):=rfl;generalize cW w s=AD at *
 generalize cN w ⟨s,1⟩=A at *
 obtain⟨A,e⟩:=A;dsimp only at fT hsm;have hlen:=hsm.len;refine kZ Px tyF pW Tryz.func49 (by kernel_rfl) rfl (ai rfl) (ai rfl) ?_
 conv=>whnf
 rw[qZ];cases hf:iY m s with
 |some x =>
  conv=>whnf
  rw[xZ hf, <- hhit x hf];exact⟨[(4,.d (.slice 1 (x.map bg)))],ag.keep ⟨ab,trivial⟩ ⟨ab,ab,trivial⟩,rfl⟩
 |none =>
  conv=>whnf
  (refine⟨_,_,fT,?_⟩;conv=>whnf)
  have none0:¬(e=0/\(A.kind=1\/A.kind=2))->AD=[]:=λh=>by rw[hadr,qU h];rfl
  cases h1:(e==0)with
  |false =>
   have hAD:=none0 (λh=>by rw[h.1]at h1;cases h1);subst hAD
   conv=>whnf
   refine⟨⟨[(1,.d (.str s)),(2,.ptr 2 0),(7,.d (.slice 1 []))],[(2,.box (c7 w 18)),(100004,.box (c7 w 18)),(18,.smap (cH m))]⟩,(ag.pX 7 1 rfl).trans (ag.keep ⟨ab,ab,ab,trivial⟩ ⟨ab,ab,ab,trivial⟩),?_⟩
   conv=>whnf
   exact⟨[(4,.d (.slice 1 []))],ag.keep ⟨ab,trivial⟩ ⟨ab,⟨congrArg (λm=>some (Blk.smap m)) (hput hf),rfl⟩,trivial⟩,rfl⟩
  |true =>
   have he:e=0:=by simpa using h1
   conv=>whnf
   cases h2:(A.kind==1)with
   |true =>
    have hk2:A.kind=1\/A.kind=2:= .inl (by simpa using h2)
    conv=>whnf
    refine⟨Nat,λk=>⟨[(1,.d (.str s)),(2,.ptr 2 0),(7,.d (.slice 1 (((iR (A.sets.take k)).map (·.n)).map bg))),(42,.d (.slice 5 (A.sets.map an))),(43,.d (.int .i64 ((A.sets.map an).length:Int))),(44,.d (.int .i64 k))],[(2,.box (c7 w 18)),(100004,.box (c7 w 18)),(18,.smap (cH m))]⟩,λk=>k<=A.sets.length,λk=>A.sets.length-k,
     ⟨0,Nat.zero_le _,(ag.pX 7 1 rfl).trans (ag.keep ⟨ab,ab,ab,ab,ab,ab,trivial⟩ ⟨ab,ab,ab,trivial⟩)⟩,λk hk=>?_⟩
    dsimp only at hk ⊢
    conv=>whnf
    refine ae (λh4=>?_) (λh4=>?_) <;> (rw[h4];conv=>whnf)
    . have hlt:k<A.sets.length:=by simpa using h4
      obtain⟨x,hx⟩:∃x,A.sets[k]? =some x:=⟨_,ah hlt⟩
      refine⟨au k,an x,aA hx,?_⟩
      conv=>whnf
      refine ae (λh5=>?_) (λh5=>?_) <;> (rw[h5];conv=>whnf)
      . (refine⟨_,_,mK x.set (hsm.small x (ar hx)).1,?_⟩;conv=>whnf)
        refine⟨k+1,hlt,by(show A.sets.length-(k+1)<A.sets.length-k;omega),ag.keep ⟨ab,ab,⟨?_,rfl⟩,ab,ab,⟨ak (by omega),rfl⟩,trivial⟩ ⟨ab,ab,ab,trivial⟩⟩;rw[gM hx,if_pos h5];rfl
      . refine⟨k+1,hlt,by(show A.sets.length-(k+1)<A.sets.length-k;omega),ag.keep ⟨ab,ab,⟨?_,rfl⟩,ab,ab,⟨ak (by omega),rfl⟩,trivial⟩ ⟨ab,ab,ab,trivial⟩⟩;rw[gM hx,if_neg (by rw[show(x.set.type==1)=false from h5];simp)];rfl
    . obtain rfl:k=A.sets.length:=by simp at h4;omega
      rw[List.take_length];have hAD:AD=(iR A.sets).map (·.n):=by rw[hadr,lJ ⟨he,hk2⟩]
      rw[<- hAD];refine⟨⟨[(1,.d (.str s)),(2,.ptr 2 0),(7,.d (.slice 1 (AD.map bg)))],[(2,.box (c7 w 18)),(100004,.box (c7 w 18)),(18,.smap (cH m))]⟩,ag.keep ⟨ab,ab,ab,trivial⟩ ⟨ab,ab,ab,trivial⟩,?_⟩
      conv=>whnf
      exact⟨[(4,.d (.slice 1 (AD.map bg)))],ag.keep ⟨ab,trivial⟩ ⟨ab,⟨congrArg (λm=>some (Blk.smap m)) (hput hf),rfl⟩,trivial⟩,rfl⟩
   |false =>
    conv=>whnf
    cases h3:(A.kind==2)with
    |true =>
     have hk2:A.kind=1\/A.kind=2:= .inr (by simpa using h3)
     conv=>whnf
     refine⟨Nat,λk=>⟨[(1,.d (.str s)),(2,.ptr 2 0),(7,.d (.slice 1 (((iR (A.sets.take k)).map (·.n)).map bg))),(42,.d (.slice 5 (A.sets.map an))),(43,.d (.int .i64 ((A.sets.map an).length:Int))),(44,.d (.int .i64 k))],[(2,.box (c7 w 18)),(100004,.box (c7 w 18)),(18,.smap (cH m))]⟩,λk=>k<=A.sets.length,λk=>A.sets.length-k,
      ⟨0,Nat.zero_le _,(ag.pX 7 1 rfl).trans (ag.keep ⟨ab,ab,ab,ab,ab,ab,trivial⟩ ⟨ab,ab,ab,trivial⟩)⟩,λk hk=>?_⟩
     dsimp only at hk ⊢
     conv=>whnf
     refine ae (λh4=>?_) (λh4=>?_) <;> (rw[h4];conv=>whnf)
     . have hlt:k<A.sets.length:=by simpa using h4
       obtain⟨x,hx⟩:∃x,A.sets[k]? =some x:=⟨_,ah hlt⟩
       refine⟨au k,an x,aA hx,?_⟩
       conv=>whnf
       refine ae (λh5=>?_) (λh5=>?_) <;> (rw[h5];conv=>whnf)
       . (refine⟨_,_,mK x.set (hsm.small x (ar hx)).1,?_⟩;conv=>whnf)
         refine⟨k+1,hlt,by(show A.sets.length-(k+1)<A.sets.length-k;omega),ag.keep ⟨ab,ab,⟨?_,rfl⟩,ab,ab,⟨ak (by omega),rfl⟩,trivial⟩ ⟨ab,ab,ab,trivial⟩⟩;rw[gM hx,if_pos h5];rfl
       . refine⟨k+1,hlt,by(show A.sets.length-(k+1)<A.sets.length-k;omega),ag.keep ⟨ab,ab,⟨?_,rfl⟩,ab,ab,⟨ak (by omega),rfl⟩,trivial⟩ ⟨ab,ab,ab,trivial⟩⟩;rw[gM hx,if_neg (by rw[show(x.set.type==1)=false from h5];simp)];rfl
     . obtain rfl:k=A.sets.length:=by simp at h4;omega
       rw[List.take_length];have hAD:AD=(iR A.sets).map (·.n):=by rw[hadr,lJ ⟨he,hk2⟩]
       rw[<- hAD];refine⟨⟨[(1,.d (.str s)),(2,.ptr 2 0),(7,.d (.slice 1 (AD.map bg)))],[(2,.box (c7 w 18)),(100004,.box (c7 w 18)),(18,.smap (cH m))]⟩,ag.keep ⟨ab,ab,ab,trivial⟩ ⟨ab,ab,ab,trivial⟩,?_⟩
       conv=>whnf
       exact⟨[(4,.d (.slice 1 (AD.map bg)))],ag.keep ⟨ab,trivial⟩ ⟨ab,⟨congrArg (λm=>some (Blk.smap m)) (hput hf),rfl⟩,trivial⟩,rfl⟩
    |false =>
     have hAD:=none0 (λh=>h.2.elim (λh=>by rw[h]at h2;cases h2) (λh=>by rw[h]at h3;cases h3));subst hAD
     conv=>whnf
     refine⟨⟨[(1,.d (.str s)),(2,.ptr 2 0),(7,.d (.slice 1 []))],[(2,.box (c7 w 18)),(100004,.box (c7 w 18)),(18,.smap (cH m))]⟩,(ag.pX 7 1 rfl).trans (ag.keep ⟨ab,ab,ab,trivial⟩ ⟨ab,ab,ab,trivial⟩),?_⟩
     conv=>whnf
     exact⟨[(4,.d (.slice 1 []))],ag.keep ⟨ab,trivial⟩ ⟨ab,⟨congrArg (λm=>some (Blk.smap m)) (hput hf),rfl⟩,trivial⟩,rfl⟩
set_option maxHeartbeats 2000000 in
theorem zg(w:ay)(m:List (Bs×List Int))(s:Bs)(hF:cU w)(hv:aU w=true)(hm:kV w m):FnH cxF 49 [.agg (c7 w 18),.d (.str s)] (hCB w m) (.d (.slice 1 ((cW w s).map bg))) (hCB w (ka w m s)):=by
 have fT:=D1 (ub w) ⟨s,1⟩ (FD hF hv);rw[Ar hv]at fT;have hsm:=nV hF ⟨s,1⟩;have hput:=x3 (w:=w) (m:=m) (s:=s);have hhit:∀x,iY m s=some x->x=cW w s:=λx h=>Ap hm h
 have hadr:cW w s=(gY (cN w ⟨s,1⟩)).map (·.n):=rfl;generalize cW w s=AD at *
 generalize cN w ⟨s,1⟩=A at *
 obtain⟨A,e⟩:=A;dsimp only at fT hsm;have hlen:=hsm.len;refine kZ Px tyF pW Tryz.func49 (by kernel_rfl) rfl (ai rfl) (ai rfl) ?_
 conv=>whnf
 rw[qZ];cases hf:iY m s with
 |some x =>
  conv=>whnf
  rw[xZ hf, <- hhit x hf];exact⟨[(4,.d (.slice 1 (x.map bg)))],ag.keep ⟨ab,trivial⟩ ⟨ab,ab,trivial⟩,rfl⟩
 |none =>
  conv=>whnf
  (refine⟨_,_,fT,?_⟩;conv=>whnf)
  have none0:¬(e=0/\(A.kind=1\/A.kind=2))->AD=[]:=λh=>by rw[hadr,qU h];rfl
  cases h1:(e==0)with
  |false =>
   have hAD:=none0 (λh=>by rw[h.1]at h1;cases h1);subst hAD
   conv=>whnf
   refine⟨⟨[(1,.d (.str s)),(2,.ptr 2 0),(7,.d (.slice 1 []))],[(2,.box (c7 w 18)),(100006,.box (c7 w 18)),(18,.smap (cH m))]⟩,(ag.pX 7 1 rfl).trans (ag.keep ⟨ab,ab,ab,trivial⟩ ⟨ab,ab,ab,trivial⟩),?_⟩
   conv=>whnf
   exact⟨[(4,.d (.slice 1 []))],ag.keep ⟨ab,trivial⟩ ⟨ab,⟨congrArg (λm=>some (Blk.smap m)) (hput hf),rfl⟩,trivial⟩,rfl⟩
  |true =>
   have he:e=0:=by simpa using h1
   conv=>whnf
   cases h2:(A.kind==1)with
   |true =>
    have hk2:A.kind=1\/A.kind=2:= .inl (by simpa using h2)
    conv=>whnf
    refine⟨Nat,λk=>⟨[(1,.d (.str s)),(2,.ptr 2 0),(7,.d (.slice 1 (((iR (A.sets.take k)).map (·.n)).map bg))),(42,.d (.slice 5 (A.sets.map an))),(43,.d (.int .i64 ((A.sets.map an).length:Int))),(44,.d (.int .i64 k))],[(2,.box (c7 w 18)),(100006,.box (c7 w 18)),(18,.smap (cH m))]⟩,λk=>k<=A.sets.length,λk=>A.sets.length-k,
     ⟨0,Nat.zero_le _,(ag.pX 7 1 rfl).trans (ag.keep ⟨ab,ab,ab,ab,ab,ab,trivial⟩ ⟨ab,ab,ab,trivial⟩)⟩,λk hk=>?_⟩
    dsimp only at hk ⊢
    conv=>whnf
    refine ae (λh4=>?_) (λh4=>?_) <;> (rw[h4];conv=>whnf)
    . have hlt:k<A.sets.length:=by simpa using h4
      obtain⟨x,hx⟩:∃x,A.sets[k]? =some x:=⟨_,ah hlt⟩
      refine⟨au k,an x,aA hx,?_⟩
      conv=>whnf
      refine ae (λh5=>?_) (λh5=>?_) <;> (rw[h5];conv=>whnf)
      . (refine⟨_,_,mK x.set (hsm.small x (ar hx)).1,?_⟩;conv=>whnf)
        refine⟨k+1,hlt,by(show A.sets.length-(k+1)<A.sets.length-k;omega),ag.keep ⟨ab,ab,⟨?_,rfl⟩,ab,ab,⟨ak (by omega),rfl⟩,trivial⟩ ⟨ab,ab,ab,trivial⟩⟩;rw[gM hx,if_pos h5];rfl
      . refine⟨k+1,hlt,by(show A.sets.length-(k+1)<A.sets.length-k;omega),ag.keep ⟨ab,ab,⟨?_,rfl⟩,ab,ab,⟨ak (by omega),rfl⟩,trivial⟩ ⟨ab,ab,ab,trivial⟩⟩;rw[gM hx,if_neg (by rw[show(x.set.type==1)=false from h5];simp)];rfl
    . obtain rfl:k=A.sets.length:=by simp at h4;omega
      rw[List.take_length];have hAD:AD=(iR A.sets).map (·.n):=by rw[hadr,lJ ⟨he,hk2⟩]
      rw[<- hAD];refine⟨⟨[(1,.d (.str s)),(2,.ptr 2 0),(7,.d (.slice 1 (AD.map bg)))],[(2,.box (c7 w 18)),(100006,.box (c7 w 18)),(18,.smap (cH m))]⟩,ag.keep ⟨ab,ab,ab,trivial⟩ ⟨ab,ab,ab,trivial⟩,?_⟩
      conv=>whnf
      exact⟨[(4,.d (.slice 1 (AD.map bg)))],ag.keep ⟨ab,trivial⟩ ⟨ab,⟨congrArg (λm=>some (Blk.smap m)) (hput hf),rfl⟩,trivial⟩,rfl⟩
   |false =>
    conv=>whnf
    cases h3:(A.kind==2)with
    |true =>
     have hk2:A.kind=1\/A.kind=2:= .inr (by simpa using h3)
     conv=>whnf
     refine⟨Nat,λk=>⟨[(1,.d (.str s)),(2,.ptr 2 0),(7,.d (.slice 1 (((iR (A.sets.take k)).map (·.n)).map bg))),(42,.d (.slice 5 (A.sets.map an))),(43,.d (.int .i64 ((A.sets.map an).length:Int))),(44,.d (.int .i64 k))],[(2,.box (c7 w 18)),(100006,.box (c7 w 18)),(18,.smap (cH m))]⟩,λk=>k<=A.sets.length,λk=>A.sets.length-k,
      ⟨0,Nat.zero_le _,(ag.pX 7 1 rfl).trans (ag.keep ⟨ab,ab,ab,ab,ab,ab,trivial⟩ ⟨ab,ab,ab,trivial⟩)⟩,λk hk=>?_⟩
     dsimp only at hk ⊢
     conv=>whnf
     refine ae (λh4=>?_) (λh4=>?_) <;> (rw[h4];conv=>whnf)
     . have hlt:k<A.sets.length:=by simpa using h4
       obtain⟨x,hx⟩:∃x,A.sets[k]? =some x:=⟨_,ah hlt⟩
       refine⟨au k,an x,aA hx,?_⟩
       conv=>whnf
       refine ae (λh5=>?_) (λh5=>?_) <;> (rw[h5];conv=>whnf)
       . (refine⟨_,_,mK x.set (hsm.small x (ar hx)).1,?_⟩;conv=>whnf)
         refine⟨k+1,hlt,by(show A.sets.length-(k+1)<A.sets.length-k;omega),ag.keep ⟨ab,ab,⟨?_,rfl⟩,ab,ab,⟨ak (by omega),rfl⟩,trivial⟩ ⟨ab,ab,ab,trivial⟩⟩;rw[gM hx,if_pos h5];rfl
       . refine⟨k+1,hlt,by(show A.sets.length-(k+1)<A.sets.length-k;omega),ag.keep ⟨ab,ab,⟨?_,rfl⟩,ab,ab,⟨ak (by omega),rfl⟩,trivial⟩ ⟨ab,ab,ab,trivial⟩⟩;rw[gM hx,if_neg (by rw[show(x.set.type==1)=false from h5];simp)];rfl
     . obtain rfl:k=A.sets.length:=by simp at h4;omega
       rw[List.take_length];have hAD:AD=(iR A.sets).map (·.n):=by rw[hadr,lJ ⟨he,hk2⟩]
       rw[<- hAD];refine⟨⟨[(1,.d (.str s)),(2,.ptr 2 0),(7,.d (.slice 1 (AD.map bg)))],[(2,.box (c7 w 18)),(100006,.box (c7 w 18)),(18,.smap (cH m))]⟩,ag.keep ⟨ab,ab,ab,trivial⟩ ⟨ab,ab,ab,trivial⟩,?_⟩
       conv=>whnf
       exact⟨[(4,.d (.slice 1 (AD.map bg)))],ag.keep ⟨ab,trivial⟩ ⟨ab,⟨congrArg (λm=>some (Blk.smap m)) (hput hf),rfl⟩,trivial⟩,rfl⟩
    |false =>
     have hAD:=none0 (λh=>h.2.elim (λh=>by rw[h]at h2;cases h2) (λh=>by rw[h]at h3;cases h3));subst hAD
     conv=>whnf
     refine⟨⟨[(1,.d (.str s)),(2,.ptr 2 0),(7,.d (.slice 1 []))],[(2,.box (c7 w 18)),(100006,.box (c7 w 18)),(18,.smap (cH m))]⟩,(ag.pX 7 1 rfl).trans (ag.keep ⟨ab,ab,ab,trivial⟩ ⟨ab,ab,ab,trivial⟩),?_⟩
     conv=>whnf
     exact⟨[(4,.d (.slice 1 []))],ag.keep ⟨ab,trivial⟩ ⟨ab,⟨congrArg (λm=>some (Blk.smap m)) (hput hf),rfl⟩,trivial⟩,rfl⟩
end Go.Proofs.YtjapjahfllomkaaGreatDoor
namespace NP
open NQ Go
def Ae(z:az):Nat->Bs->Bool
 |0,_=>false
 |f+1,n=>if n=z.apex then false else if dH z.apex z.sets n=true then true else Ae z f (bu n)
def w4(z:az)(s:Bs):Bool:=Ae z ((aT s).length+1) s
def eS(f:Signed->Bool)(l:List Signed):List (List D):=(l.filter f).map λs=>[.agg (mO s.set)]
def eJ(z:az)(s:Signed):Bool:=(s.set.type==1)&&w4 z s.set.name
def sK(z:az):D:= .ptr [.kmap ((hX z.apex z.sets []).map cP)]
theorem Bl(z:az)(f:Nat)(n:Bs):Ae z (f+1) n=if n=z.apex then false else if dH z.apex z.sets n=true then true else Ae z f (bu n):=rfl
theorem Ie(a:Bs)(m:List (Bs×D)):eU (.str a) (m.map cP)=some (cM a m):=by
 induction m with
 |nil=>rfl
 |cons p t ih =>
  obtain⟨b,v⟩:=p;show(match eL (.str a) [.tuple [.str b]]with|some true=>_|some false=>eU (.str a) (t.map cP)|none=>none)=(some (if a=b then some v else cM a t))
  have:eL (.str a) [.tuple [.str b]]=some (a==b):=rfl;rw[this];by_cases h:a=b
  . subst h;simp
  . have:(a==b)=false:=by simp[h]
    rw[this,if_neg h];exact ih
end NP
namespace Go.Proofs.YtjapjahfllomkaaGreatDoor
open NQ Go NP Go.RowKit
def Gs(z:az):D:= .fn 107 [] [.ptr (aM z),sK z]
theorem Od(z:az)(hz:z.sets.length<=100000):NQ.Fn cx 53 [.agg (aM z)] (.d (.fn 108 [] [.ptr (aM z),.ptr [Gs z]])) []:=by
 refine cK (fun|_=>[]) aP mixed Tryz.func53 (by kernel_rfl) rfl (ai rfl) ?_
 conv=>whnf
 refine⟨Nat,λk=>⟨[(1,.ptr 1 0),(3,.ptr 3 0),(9,.d (.slice 5 (z.sets.map an))),(10,.d (.int .i64 ((z.sets.map an).length:Int))),(11,.d (.int .i64 k))],[(1,.box ((aM z).map .d)),(3,.box [.omap 7]),(7,.smap (hX z.apex (z.sets.take k) []))]⟩,λk=>k<=z.sets.length,λk=>z.sets.length-k,
  ⟨0,Nat.zero_le _,ag.keep ⟨ab,ab,ab,ab,ab,trivial⟩ ⟨ab,ab,ab,trivial⟩⟩,λk hk=>?_⟩
 dsimp only at hk ⊢
 conv=>whnf
 refine ae (λh1=>?_) (λh1=>?_) <;> (rw[h1];conv=>whnf)
 . have hlt:k<z.sets.length:=by simpa using h1
   obtain⟨s,hs⟩:∃s,z.sets[k]? =some s:=⟨_,ah hlt⟩
   have hm:=rh z.apex s (z.sets.take k) [];rw[<- aV hs]at hm;refine⟨au k,an s,aA hs,?_⟩
   conv=>whnf
   refine ae (λh2=>?_) (λh2=>?_) <;> (rw[h2];conv=>whnf)
   . cases h3:(s.set.name==z.apex)with
     |false =>
      have hm:=hm.trans (if_pos (by unfold dt;rw[show(s.set.type==2)=true from h2,h3];rfl))
      conv=>whnf
      exact⟨k+1,hlt,by(show z.sets.length-(k+1)<z.sets.length-k;omega),ag.keep ⟨ab,ab,ab,ab,⟨ak (by omega),rfl⟩,trivial⟩ ⟨ab,ab,⟨by rw[hm];rfl,rfl⟩,trivial⟩⟩
     |true =>
      have hm:=hm.trans (if_neg (by unfold dt;rw[h3,Bool.and_comm];simp))
      conv=>whnf
      exact⟨k+1,hlt,by(show z.sets.length-(k+1)<z.sets.length-k;omega),ag.keep ⟨ab,ab,ab,ab,⟨ak (by omega),rfl⟩,trivial⟩ ⟨ab,ab,⟨by rw[hm];rfl,rfl⟩,trivial⟩⟩
   . have hm:=hm.trans (if_neg (by unfold dt;rw[show(s.set.type==2)=false from h2];simp));exact⟨k+1,hlt,by(show z.sets.length-(k+1)<z.sets.length-k;omega),ag.keep ⟨ab,ab,ab,ab,⟨ak (by omega),rfl⟩,trivial⟩ ⟨ab,ab,⟨by rw[hm];rfl,rfl⟩,trivial⟩⟩
 . obtain rfl:k=z.sets.length:=by simp at h1;omega
   rw[List.take_length];exact af rfl rfl
set_option maxHeartbeats 1000000 in
theorem Gt(z:az)(s:Bs)(hs:ao s=true)(hu:aF s z.apex=true):NQ.Fn cx 107 [.str s,.ptr (aM z),sK z] (.d (.bool (w4 z s))) []:=by
 have hfind:∀b,eU (.str b) ((hX z.apex z.sets []).map cP)=some (if dH z.apex z.sets b=true then some (.bool true)else none):=λb=>by
  rw[Ie,rf];rfl
 refine aB aP mixed Tryz.func107 (by kernel_rfl) rfl (ai rfl) ?_;conv=>whnf
 refine⟨Nat×Bs,λx=>⟨[(0,.d (.str x.2)),(1,.d (.ptr (aM z))),(2,.d (sK z))],[]⟩,λx=>ao x.2=true/\aF x.2 z.apex=true/\(aT x.2).length<x.1/\Ae z x.1 x.2=w4 z s,λx=>x.1,
  ⟨((aT s).length+1,s),⟨hs,hu,Nat.lt_succ_self _,rfl⟩,ag.keep ⟨ab,ab,ab,trivial⟩ trivial⟩,λ⟨f,b⟩ ⟨hb,hub,hf,hinv⟩=>?_⟩
 dsimp only at hb hub hf hinv ⊢;obtain⟨f,rfl⟩:∃g,f=g+1:=⟨f-1,by omega⟩
 rw[Bl]at hinv
 conv=>whnf
 cases h1:(b==z.apex)with
 |true =>
  have he:b=z.apex:=by simpa using h1
  rw[if_pos he]at hinv
  conv=>whnf
  rw[h1]
  conv=>whnf
  rw[<- hinv];exact af rfl rfl
 |false =>
  have he:b≠z.apex:=by simpa using h1
  rw[if_neg he]at hinv
  conv=>whnf
  refine⟨_,hfind b,?_⟩;cases hc:dH z.apex z.sets b with
  |true =>
   rw[hc]at hinv
   conv=>whnf
   rw[h1]
   conv=>whnf
   rw[<- hinv];exact af rfl rfl
  |false =>
   rw[hc]at hinv
   conv=>whnf
   obtain⟨hne,h2,h3⟩:=iP hb hub he;have fP:=nZ b;rw[show dN b=(bu b,0) by unfold dN;rw[if_pos hb,if_neg hne]]at fP
   (refine⟨_,_,fP,?_⟩;conv=>whnf)
   exact⟨(f,bu b),⟨dR hb,h2,by dsimp only;omega,hinv⟩,by(show f<f+1;omega),ag.keep ⟨ab,ab,ab,trivial⟩ trivial⟩
theorem rn{f:Signed->Bool}{l:List Signed}{k:Nat}{s:Signed}(h:l[k]? =some s):eS f (l.take (k+1))=eS f (l.take k)++(if f s=true then[[.agg (mO s.set)]]else[]):=by
 unfold eS;rw[aV h,List.filter_append,List.map_append];by_cases hb:f s=true
 . rw[if_pos hb,List.filter_cons_of_pos hb];rfl
 . rw[if_neg hb,List.filter_cons_of_neg hb];rfl
theorem JB{f:Signed->Bool}{l:List Signed}{k:Nat}{s:Signed}(h:l[k]? =some s)(hf:f s=true):(eS f l)[(eS f (l.take k)).length]? =some [.agg (mO s.set)]:=by
 have e:eS f l=eS f (l.take (k+1))++eS f (l.drop (k+1)):=by
  unfold eS;rw[<- List.map_append, <- List.filter_append,List.take_append_drop]
 rw[e,rn h,if_pos hf];simp
set_option maxHeartbeats 1000000 in
theorem JC(z:az)(hv:aW z=true)(hz:z.sets.length<=100000) :
 O8 cx 108 [.ptr (aM z),.ptr [Gs z]] (eS (eJ z) z.sets):=by
 have hb:∀s∈z.sets,NQ.Fn cx 107 [.str s.set.name,.ptr (aM z),sK z] (.d (.bool (w4 z s.set.name))) []:=λs hs=>by
  have V:=dw.1 hv;exact Gt z s.set.name (V.ord.name s hs) (by have:=V.ord.under s hs;unfold bG at this;rw[if_pos ⟨V.ord.name s hs,V.ord.apex⟩]at this;exact this)
 refine wj (fun|3=>[77777]|_=>[]) aP mixed Tryz.func108 (by kernel_rfl) rfl rfl (ai rfl) ?_
 conv=>whnf
 refine⟨rfl,?_⟩
 conv=>whnf
 refine⟨Nat,λk=>(((eS (eJ z) (z.sets.take k)).length,true),⟨[(1,.d (.ptr (aM z))),(2,.d (.ptr [Gs z])),(7,.d (.slice 5 (z.sets.map an))),(8,.d (.int .i64 ((z.sets.map an).length:Int))),(9,.d (.int .i64 k))],[]⟩),
  λk=>k<=z.sets.length,λk=>z.sets.length-k,⟨0,Nat.zero_le _,by simp[eS],ag.keep ⟨ab,ab,ab,ab,ab,trivial⟩ trivial⟩,λk hk=>?_⟩
 conv=>whnf
 refine⟨rfl,?_⟩
 conv=>whnf
 refine ae (λh1=>?_) (λh1=>?_) <;> (rw[h1];conv=>whnf)
 . have hlt:k<z.sets.length:=by simpa using h1
   obtain⟨s,hs⟩:∃s,z.sets[k]? =some s:=⟨_,ah hlt⟩
   have again:eJ z s=false->((eS (eJ z) (List.take (k+1) z.sets)).length,true)=((eS (eJ z) (List.take k z.sets)).length,true):=λe=>by
    rw[rn hs,if_neg (by rw[e];simp)];simp
   have hcall:=hb s (ar hs);refine⟨rfl,?_⟩
   conv=>whnf
   refine⟨au k,an s,aA hs,?_⟩
   conv=>whnf
   repeat' (first|(refine⟨rfl,?_⟩;conv=>whnf)|fail)
   cases h2:(s.set.type==1)with
   |false =>
    conv=>whnf
    have e:eJ z s=false:=by unfold eJ;rw[h2];rfl
    repeat' (first|(refine⟨rfl,?_⟩;conv=>whnf)|fail)
    exact⟨k+1,by show k+1<=_;omega,by show z.sets.length-(k+1)<z.sets.length-k;omega,again e,ag.keep ⟨ab,ab,ab,ab,⟨ak (by omega),rfl⟩,trivial⟩ trivial⟩
   |true =>
    conv=>whnf
    repeat' (first|(refine⟨rfl,?_⟩;conv=>whnf)|fail)
    (refine⟨_,_,hcall,?_⟩;conv=>whnf)
    cases h3:w4 z s.set.name with
    |false =>
     have e:eJ z s=false:=by unfold eJ;rw[h2,h3];rfl
     conv=>whnf
     repeat' (first|(refine⟨rfl,?_⟩;conv=>whnf)|fail)
     exact⟨k+1,by show k+1<=_;omega,by show z.sets.length-(k+1)<z.sets.length-k;omega,again e,ag.keep ⟨ab,ab,ab,ab,⟨ak (by omega),rfl⟩,trivial⟩ trivial⟩
    |true =>
     have e:eJ z s=true:=by unfold eJ;rw[h2,h3];rfl
     conv=>whnf
     repeat' (first|(refine⟨rfl,?_⟩;conv=>whnf)|fail)
     refine⟨_,_,⟨JB hs e,rfl⟩,rfl,λb=>?_⟩
     conv=>whnf
     cases b with
     |true =>
      repeat' (first|(refine⟨rfl,?_⟩;conv=>whnf)|fail)
      refine⟨k+1,by show k+1<=_;omega,by show z.sets.length-(k+1)<z.sets.length-k;omega,?_,ag.keep ⟨ab,ab,ab,ab,⟨ak (by omega),rfl⟩,trivial⟩ trivial⟩;show((eS (eJ z) (List.take (k+1) z.sets)).length,true)=((eS (eJ z) (List.take k z.sets)).length+1,true)
      rw[rn hs,if_pos e];simp
     |false =>
      repeat' (first|(refine⟨rfl,?_⟩;conv=>whnf)|fail)
      exact⟨trivial,λh=>by cases h⟩
 . refine⟨trivial,λ_=>?_⟩;obtain rfl:k=z.sets.length:=by simp at h1;omega
   simp
end Go.Proofs.YtjapjahfllomkaaGreatDoor
namespace NP
open NQ Go
theorem GI{z:az}{n:Bs}(h:n≠z.apex):dH z.apex z.sets n=bR z.sets ⟨n,2⟩:=by
 unfold dH bR
 congr 1
 funext s
 unfold dt;rw[Bool.eq_iff_iff,iD];simp only[Signed.place,aQ.place,aC,beq_iff_eq,Bool.not_eq_true',beq_eq_false_iff_ne,Prod.mk.injEq];constructor
 . rintro⟨⟨h1,_⟩,h3⟩;exact⟨h3,h1⟩
 . rintro⟨h1,h2⟩;exact⟨⟨h2,λe=>h (h1.symm.trans e)⟩,h1⟩
theorem KC(z:az):∀(f:Nat) (n:Bs),Ae z f n=(lS z f n).isSome
 |0,_=>rfl
 |f+1,n=>by
  rw[Bl];show _=(if n=z.apex then none else if bR z.sets ⟨n,2⟩=true then some n else lS z f (bu n)).isSome
  by_cases h:n=z.apex
  . rw[if_pos h,if_pos h];rfl
  . rw[if_neg h,if_neg h,GI h];split
    . rfl
    . exact KC z f _
theorem NN{z:az}(hv:aW z=true){n:Bs}(hn:ao n=true)(hu:aF n z.apex=true):w4 z n= !(bo z n==[]):=by
 have ha:=(bB hv).apex;have hu' :(bG n z.apex).1=true:=by unfold bG;rw[if_pos ⟨hn,ha⟩];exact hu
 have h:=zt hv hn hu;unfold w4;rw[KC];show(ri z n).isSome=_
 unfold eh at h;rw[if_neg (by simp[hv,hn]),if_neg (by simp[hu'])]at h;cases hc:ri z n with
 |none=>rw[hc]at h;simp only[Prod.mk.injEq]at h;exact h.2.1
 |some c=>rw[hc]at h;simp only[Prod.mk.injEq]at h;exact h.2.1
theorem Oe{z:az}(hv:aW z=true){s:Signed}(hs:s∈z.sets):eJ z s=eT z s:=by
 have V:=dw.1 hv;have hn:=V.ord.name s hs;have hu:=V.ord.under s hs;unfold bG at hu;rw[if_pos ⟨hn,V.ord.apex⟩]at hu;unfold eJ eT;rw[NN hv hn hu]
def o9(l:List Int):List (List D×D):=l.map λn=>([.tuple [.int .i64 n]],.bool true)
def zf(l:List Int)(n:Int):List Int:=if l.contains n=true then l else l++[n]
theorem AH(n:Int):∀l:List Int,eU (.int .i64 n) (o9 l)=some (if l.contains n=true then some (.bool true)else none)
 |[]=>rfl
 |x::l=>by
  show(match eL (.int .i64 n) [.tuple [.int .i64 x]]with|some true=>_|some false=>eU _ (o9 l)|none=>none)=_
  have:eL (.int .i64 n) [.tuple [.int .i64 x]]=some (n==x):=rfl;rw[this,List.contains_cons];cases h:(n==x)with
  |true=>simp
  |false=>simp only[dE];exact AH n l
theorem CX{n:Int}:∀{l:List Int},qJ (.int .i64 n) (.bool true) (o9 l)=some (o9 (zf l n))
 |[]=>rfl
 |x::l=>by
  unfold zf;show(match eL (.int .i64 n) [.tuple [.int .i64 x]]with|some true=>_|some false=>(qJ _ _ (o9 l)).map _|none=>none)=_
  have:eL (.int .i64 n) [.tuple [.int .i64 x]]=some (n==x):=rfl;rw[this,List.contains_cons];cases h:(n==x)with
  |true =>
   have hx:x=n:=(eq_of_beq h).symm;subst hx;simp[o9]
  |false =>
   simp only[dE];rw[CX (l:=l)];unfold zf;split <;> rfl
theorem K0(l:List Int)(n x:Int):(zf l n).contains x=(l.contains x||(x==n)):=by
 rw[Bool.eq_iff_iff,Bool.or_eq_true,cq,cq,beq_iff_eq];unfold zf;split
 . rename_i h;exact⟨.inl,λhx=>hx.elim id λe=>e ▸ cq.1 h⟩
 . simp
def l0(f:ep->Bool)(l:List ep)(k:Nat):List Int:=((List.range k).filter λi=>(l[i]?.map f).getD false).map λ(i:Nat)=>(i:Int)
theorem AG{f:ep->Bool}{l:List ep}{k:Nat}{h:ep}(hk:l[k]? =some h):l0 f l (k+1)=l0 f l k++(if f h=true then[(k:Int)]else[]):=by
 unfold l0;rw[List.range_succ,List.filter_append,List.map_append]
 congr 1
 by_cases hf:f h=true
 . rw[if_pos hf,List.filter_cons_of_pos (by rw[hk];exact hf)];rfl
 . rw[if_neg hf,List.filter_cons_of_neg (by rw[hk];exact hf)];rfl
theorem xp(f:ep->Bool)(l:List ep)(k:Nat):(l0 f l k).length<=k:=by
 unfold l0;rw[aj];have:=List.length_filter_le (λi=>(l[i]?.map f).getD false) (List.range k);rw[List.length_range]at this;exact this
def onB(w:ay)(a:Bs)(h:ep):Bool:=((bF w.zones a).1.any λs=>(cW w s).contains h.addr)&&bH w a h.addr
def dy(w:ay)(a:Bs):List Int×Int:=if (aU w&&ao a)=true then(match ba w.zones a with|some _=>(l0 (onB w a) w.hosts w.hosts.length,0)|none=>([],4))else([],1)
theorem wW{w:ay}(hF:cU w)(s:Bs):(cW w s).length<=100000:=by
 unfold cW gY;rw[aj];split
 . split
   . rename_i x hx;have:=List.mem_of_getLast? hx;exact((nV hF ⟨s,1⟩).small x (List.mem_filter.1 this).1).1
   . exact Nat.zero_le _
 . exact Nat.zero_le _
theorem E7{w:ay}(hF:cU w)(hv:aU w=true)(a:Bs):(bF w.zones a).1.length<=200000:=by
 have hg:kT w.zones:=λp hp=>⟨hF.few p hp,(bS hv p hp).1⟩
 have ht:∀b,(fX w.zones b a).length<=200000:=λb=>by
  unfold fX;cases hc:ba w.zones b with
  |none=>exact Nat.zero_le _
  |some x =>
   have h1:=(dB hc).1;have h2:=cS (hg _ h1).1;have h3:=Go.Proofs.YtjapjahfllomkaaGreatDoor.oT (z:=x.2.zone) a (λs hs=>by have:=(h2.2 s hs).1;omega) x.2.zone.sets.length;rw[List.take_length]at h3;have:(bZ x.2.zone a).length<=100*x.2.zone.sets.length:=h3;dsimp only;omega
 unfold bF;split
 . exact ht _
 . split
   . exact ht _
   . exact Nat.zero_le _
end NP
namespace Go.Proofs.YtjapjahfllomkaaGreatDoor
open NQ Go NP Go.RowKit
def Qp:Nat->List Nat
 |7=>[44444]
 |8=>[88888]
 |12=>[88888]
 |15=>[88888]
 |18=>[18]
 |_=>[]
set_option maxHeartbeats 2000000 in
theorem E8(w:ay)(a:Bs)(hF:cU w)(hv:aU w=true)(ha:ao a=true):NQ.Fn cx 15 [.agg (bw w),.str a] (.tuple [.d (.slice 1 ((dy w a).1.map bg)),.d (.int .i64 (dy w a).2)]) []:=by
 show NQ.Fn cxF _ _ _ _
 have hW:dy w a=(match ba w.zones a with|some _=>(l0 (onB w a) w.hosts w.hosts.length,0)|none=>([],4)):=by unfold dy;rw[if_pos (by rw[hv,ha];rfl)]
 unfold onB at hW;have hfind:∀b,eU (.str b) ((cg (fg w.zones)).map cP)=some ((ba w.zones b).map λx=>D.agg (aM x.2.zone)):=λb=>by
  rw[pJ,kb,w5 hv];cases ba w.zones b <;> rfl
 have fV:=qP w hF;rw[hv]at fV;have fC:=uU w hF hv;have fN:=j9 a;rw[ha]at fN;refine AB Qp tyF pW Tryz.func15 (by kernel_rfl) rfl (ai rfl) ?_
 conv=>whnf
 (refine⟨_,_,fV,?_⟩;conv=>whnf)
 (refine⟨_,_,fN,?_⟩;conv=>whnf)
 (refine⟨_,_,fC,?_⟩;conv=>whnf)
 refine⟨_,hfind a,?_⟩;cases hc:ba w.zones a with
 |none =>
  rw[hc]at hW;rw[hW]
  conv=>whnf
  exact .inl ⟨rfl,rfl⟩
 |some x =>
  rw[hc]at hW;dsimp only at hW;rw[hW];clear hW
  conv=>whnf
  refine⟨⟨[(1,.d (.str a)),(2,.ptr 2 0),(6,.ptr 100006 0)],[(2,.box ((bw w).map .d)),(100006,.box (c7 w 18)),(18,.smap [])]⟩,(ie.ren [6] (by kernel_rfl)).trans (ag.zero (ag.keep ⟨⟨(by kernel_rfl),(by kernel_rfl)⟩,⟨(by kernel_rfl),(by kernel_rfl)⟩,⟨(by kernel_rfl),(by kernel_rfl)⟩,trivial⟩ ⟨⟨(by kernel_rfl),(by kernel_rfl)⟩,⟨(by kernel_rfl),(by kernel_rfl)⟩,⟨(by kernel_rfl),(by kernel_rfl)⟩,trivial⟩)),?_⟩
  conv=>whnf
  refine⟨[2,38],_,_,DR w [] a hF hv ha,⟨⟨by kernel_rfl,by kernel_rfl⟩,by kernel_rfl,by kernel_rfl,by kernel_rfl⟩,?_⟩;have hSl:(bF w.zones a).1.length<=200000:=E7 hF hv a;generalize (bF w.zones a).1=S at *
  conv=>whnf
  refine⟨Nat×List (Bs×List Int)×List Int,λx=>⟨[(1,.d (.str a)),(2,.ptr 2 0),(6,.ptr 100006 0),(9,.omap 38),(45,.d (.slice 1 (S.map aJ))),(46,.d (.int .i64 ((S.map aJ).length:Int))),(47,.d (.int .i64 x.1))],[(2,.box ((bw w).map .d)),(100006,.box (c7 w 18)),(18,.smap (cH x.2.1)),(38,.kmap (o9 x.2.2))]⟩,
   λx=>x.1<=S.length/\kV w x.2.1/\ ∀n,x.2.2.contains n=(S.take x.1).any λs=>(cW w s).contains n,λx=>S.length-x.1,
   ⟨(0,[],[]),⟨Nat.zero_le _,(λp hp=>by cases hp),λn=>rfl⟩,ag.keep ⟨ab,ab,ab,ab,ab,ab,ab,trivial⟩ ⟨ab,ab,ab,ab,trivial⟩⟩,λ⟨k,m,l⟩ ⟨hk,hm,hl⟩=>?_⟩
  dsimp only at hk hm hl ⊢
  conv=>whnf
  refine ae (λh1=>?_) (λh1=>?_) <;> (rw[h1];conv=>whnf)
  . have hlt:k<S.length:=by simpa using h1
    obtain⟨s,hs⟩:∃s,S[k]? =some s:=⟨_,ah hlt⟩
    have hAl:=wW hF s;refine⟨au k,aJ s,aA hs,?_⟩
    conv=>whnf
    refine⟨[2,38],_,_,zg w m s hF hv hm,⟨⟨by kernel_rfl,by kernel_rfl⟩,by kernel_rfl,by kernel_rfl,by kernel_rfl⟩,?_⟩;have hm2:=tZ hm s;have hl2:∀l2:List Int,(∀n,l2.contains n=(l.contains n||(cW w s).contains n))-> ∀n,l2.contains n=(S.take (k+1)).any λs=>(cW w s).contains n:=λl2 h n=>by
     rw[h n,hl n,aV hs,List.any_append];simp
    generalize ka w m s=m2 at *
    generalize cW w s=AD at *
    conv=>whnf
    refine⟨Nat×List Int,λy=>⟨[(1,.d (.str a)),(2,.ptr 2 0),(6,.ptr 100006 0),(9,.omap 38),(45,.d (.slice 1 (S.map aJ))),(46,.d (.int .i64 ((S.map aJ).length:Int))),(47,.d (.int .i64 k)),(53,.d (.slice 1 (AD.map bg))),(54,.d (.int .i64 ((AD.map bg).length:Int))),(55,.d (.int .i64 y.1))],[(2,.box ((bw w).map .d)),(100006,.box (c7 w 18)),(18,.smap (cH m2)),(38,.kmap (o9 y.2))]⟩,
     λy=>y.1<=AD.length/\ ∀n,y.2.contains n=(l.contains n||(AD.take y.1).contains n),λy=>AD.length-y.1,
     ⟨(0,l),⟨Nat.zero_le _,λn=>by simp⟩,ag.keep ⟨ab,ab,ab,ab,ab,ab,ab,ab,ab,ab,trivial⟩ ⟨ab,ab,ab,ab,trivial⟩⟩,λ⟨j,l2⟩ ⟨hj,hl3⟩=>?_⟩
    dsimp only at hj hl3 ⊢
    conv=>whnf
    refine ae (λh2=>?_) (λh2=>?_) <;> (rw[h2];conv=>whnf)
    . have hjl:j<AD.length:=by simpa using h2
      obtain⟨n,hn⟩:∃n,AD[j]? =some n:=⟨_,ah hjl⟩
      refine⟨au j,bg n,aA hn,?_⟩
      conv=>whnf
      refine⟨_,CX,?_⟩
      conv=>whnf
      refine⟨(j+1,zf l2 n),⟨hjl,λx=>?_⟩,by(show AD.length-(j+1)<AD.length-j;omega),ag.keep ⟨ab,ab,ab,ab,ab,ab,ab,ab,ab,⟨ak (by omega),rfl⟩,trivial⟩ ⟨ab,ab,ab,ab,trivial⟩⟩;rw[K0,hl3 x,aV hn,Bool.or_assoc]
      congr 1
      rw[Bool.eq_iff_iff,Bool.or_eq_true,cq,cq,List.mem_append,beq_iff_eq,List.mem_singleton]
    . obtain rfl:j=AD.length:=by simp at h2;omega
      rw[List.take_length]at hl3;exact⟨(k+1,m2,l2),⟨hlt,hm2,hl2 l2 hl3⟩,by(show S.length-(k+1)<S.length-k;omega),ag.keep ⟨ab,ab,ab,ab,ab,ab,⟨ak (by omega),rfl⟩,trivial⟩ ⟨ab,ab,ab,ab,trivial⟩⟩
  . obtain rfl:k=S.length:=by simp at h1;omega
    rw[List.take_length]at hl;have hhosts:=hF.hosts;refine⟨Nat,λi=>⟨[(1,.d (.str a)),(6,.ptr 100006 0),(9,.omap 38),(16,.own 16),(64,.d (.slice 3 (w.hosts.map dV))),(65,.d (.int .i64 ((w.hosts.map dV).length:Int))),(66,.d (.int .i64 i))],[(100006,.box ((GA w m).map .d)),(16,.row 3 1 ((l0 (λh=>(S.any λs=>(cW w s).contains h.addr)&&bH w a h.addr) w.hosts i).map bg)),(38,.kmap (o9 l))]⟩,λi=>i<=w.hosts.length,λi=>w.hosts.length-i,
     ⟨0,Nat.zero_le _,(ag.jX 16 16 1 3 1 rfl rfl (by decide)).trans (ag.keep ⟨ab,ab,ab,ab,ab,ab,ab,trivial⟩ ⟨ab,ab,ab,trivial⟩)⟩,λi hi=>?_⟩
    dsimp only at hi ⊢
    conv=>whnf
    refine ae (λh2=>?_) (λh2=>?_) <;> (rw[h2];conv=>whnf)
    . have hil:i<w.hosts.length:=by simpa using h2
      obtain⟨h,hh⟩:∃h,w.hosts[i]? =some h:=⟨_,ah hil⟩
      refine⟨au i,dV h,aA hh,?_⟩
      conv=>whnf
      refine⟨_,AH h.addr l,?_⟩;rw[hl h.addr];have hsn:=AG (f:=λh=>(S.any λs=>(cW w s).contains h.addr)&&bH w a h.addr) hh;cases hx:S.any (λs=>(cW w s).contains h.addr)with
      |false =>
       rw[hx,iM,if_neg (by simp),List.append_nil]at hsn
       conv=>whnf
       refine⟨i+1,hil,by(show w.hosts.length-(i+1)<w.hosts.length-i;omega),ag.keep ⟨ab,ab,ab,ab,ab,ab,⟨ak (by omega),rfl⟩,trivial⟩ ⟨ab,⟨?_,rfl⟩,ab,trivial⟩⟩;rw[hsn];rfl
      |true =>
       rw[hx,dF]at hsn;have hix:=xp (λh=>(S.any λs=>(cW w s).contains h.addr)&&bH w a h.addr) w.hosts i
       conv=>whnf
       (refine⟨_,_,A7 w m a h.addr,?_⟩;conv=>whnf)
       cases hy:bH w a h.addr with
       |false =>
        rw[hy,if_neg (by simp),List.append_nil]at hsn
        conv=>whnf
        refine⟨i+1,hil,by(show w.hosts.length-(i+1)<w.hosts.length-i;omega),ag.keep ⟨ab,ab,ab,ab,ab,ab,⟨ak (by omega),rfl⟩,trivial⟩ ⟨ab,⟨?_,rfl⟩,ab,trivial⟩⟩;rw[hsn];rfl
       |true =>
        rw[hy,if_pos rfl]at hsn
        conv=>whnf
        generalize l0 (λh=>(S.any λs=>(cW w s).contains h.addr)&&bH w a h.addr) w.hosts i=I at *
        refine⟨by(show(I.map bg).length+1<=_);rw[aj];omega,by(show((I.map bg).length+1)*8<=_);rw[aj];omega,?_⟩
        conv=>whnf
        refine⟨i+1,hil,by(show w.hosts.length-(i+1)<w.hosts.length-i;omega),ag.keep ⟨ab,ab,ab,ab,ab,ab,⟨ak (by omega),rfl⟩,trivial⟩ ⟨ab,⟨?_,rfl⟩,ab,trivial⟩⟩;rw[hsn,List.map_append];rfl
    . obtain rfl:i=w.hosts.length:=by simp at h2;omega
      exact .inl ⟨rfl,rfl⟩
theorem ph(w:ay)(a:Bs)(hF:cU w):NQ.Fn cx 15 [.agg (bw w),.str a] (.tuple [.d (.slice 1 ((dy w a).1.map bg)),.d (.int .i64 (dy w a).2)]) []:=by
 have fV:=qP w hF;have fN:=j9 a;cases hv:aU w with
 |false =>
  rw[hv]at fV;have e:dy w a=([],1):=by unfold dy;rw[hv];rfl
  rw[e];refine aB aP mixed Tryz.func15 (by kernel_rfl) rfl (ai rfl) ?_;conv=>whnf
  (refine⟨_,_,fV,?_⟩;conv=>whnf)
  exact af rfl rfl
 |true =>
  cases ha:ao a with
  |false =>
   rw[hv]at fV;rw[ha]at fN;have e:dy w a=([],1):=by unfold dy;rw[hv,ha];rfl
   rw[e];refine aB aP mixed Tryz.func15 (by kernel_rfl) rfl (ai rfl) ?_;conv=>whnf
   (refine⟨_,_,fV,?_⟩;conv=>whnf)
   (refine⟨_,_,fN,?_⟩;conv=>whnf)
   exact af rfl rfl
  |true=>exact E8 w a hF hv ha
end Go.Proofs.YtjapjahfllomkaaGreatDoor
namespace NP
open NQ Go
def dg(l:List Fnd):List (List D×D):=l.map λf=>(bD f,.bool true)
def nf(l:List Fnd)(f:Fnd):List Fnd:=if l.contains f=true then l else l++[f]
theorem sS{l:List Fnd}{f x:Fnd}:x∈nf l f ↔ x∈l\/x=f:=by
 unfold nf;split
 . rename_i h;exact⟨.inl,λhx=>hx.elim id λe=>e ▸ cq.1 h⟩
 . simp
theorem Pv(f x:Fnd):cA [.int .i64,.str,.str] ((bD f).map .d) ((bD x).map .d)=some (f==x):=by
 obtain⟨a,b,c⟩:=f;obtain⟨a',b',c'⟩:=x;show some ((a==a')&&((b==b')&&((c==c')&&true)))=_
 congr 1
 rw[Bool.eq_iff_iff];simp
theorem FJ{f:Fnd}:∀{l:List Fnd},mH [.int .i64,.str,.str] (bD f) (.bool true) (dg l)=some (dg (nf l f))
 |[]=>rfl
 |x::l=>by
  unfold nf;show(match cA [.int .i64,.str,.str] ((bD f).map .d) ((bD x).map .d)with|some true=>_|some false=>(mH _ _ _ (dg l)).map _|none=>none)=_
  rw[Pv,List.contains_cons];cases h:(f==x)with
  |true =>
   have hx:x=f:=(eq_of_beq h).symm;subst hx;simp[dg]
  |false =>
   simp only[dE];rw[FJ (l:=l)];unfold nf;split <;> rfl
end NP
namespace Go.Proofs.YtjapjahfllomkaaGreatDoor
open NQ Go NP Go.RowKit
def hN(l:List Fnd):List (Nat×Blk):=[(100005,.box [.omap 20]),(20,.kmap (dg l))]
theorem Jk(a b:List Bs)(ha:a.length<=200000):NQ.Fn cx 47 [.slice 1 (a.map aJ),.slice 1 (b.map aJ)] (.d (.bool (a==b))) []:=by
 refine aB aP mixed Tryz.func47 (by kernel_rfl) rfl (ai rfl) ?_;conv=>whnf
 by_cases hl:a.length=b.length
 . rw[show(((a.map aJ).length:Int) != ((b.map aJ).length:Int))=false by simp[hl]]
   conv=>whnf
   refine⟨Nat,λk=>⟨[(0,.d (.slice 1 (a.map aJ))),(1,.d (.slice 1 (b.map aJ))),(12,.d (.int .i64 ((a.map aJ).length:Int))),(13,.d (.int .i64 k))],[]⟩,λk=>k<=a.length/\a.take k=b.take k,λk=>a.length-k,
    ⟨0,⟨Nat.zero_le _,rfl⟩,ag.keep ⟨ab,ab,ab,ab,trivial⟩ trivial⟩,λk ⟨hk,he⟩=>?_⟩
   dsimp only at hk he ⊢
   conv=>whnf
   refine ae (λh1=>?_) (λh1=>?_) <;> (rw[h1];conv=>whnf)
   . have hlt:k<a.length:=by simpa using h1
     obtain⟨x,hx⟩:∃x,a[k]? =some x:=⟨_,ah hlt⟩
     obtain⟨y,hy⟩:∃y,b[k]? =some y:=⟨_,ah (by omega)⟩
     (refine⟨(by kernel_rfl:bc _ _=true),?_⟩;conv=>whnf)
     refine⟨au k,aJ x,aA hx,?_⟩
     conv=>whnf
     refine⟨au k,aJ y,aA hy,?_⟩
     conv=>whnf
     by_cases hxy:x=y
     . rw[show(x==y)=true by simp[hxy]]
       conv=>whnf
       refine⟨k+1,⟨hlt,?_⟩,by(show a.length-(k+1)<a.length-k;omega),ag.keep ⟨ab,ab,ab,⟨ak (by omega),rfl⟩,trivial⟩ trivial⟩;rw[aV hx,aV hy,he,hxy]
     . rw[show(x==y)=false by simp[hxy]]
       conv=>whnf
       refine af rfl ?_;have:(a==b)=false:=by
        rw[beq_eq_false_iff_ne];intro e;rw[e,hy]at hx;exact hxy (by cases hx;rfl)
       rw[this];rfl
   . obtain rfl:k=a.length:=by simp at h1;omega
     refine af rfl ?_;have:(a==b)=true:=by
      rw[List.take_length,hl,List.take_length]at he;rw[he];simp
     rw[this];rfl
 . rw[show(((a.map aJ).length:Int) != ((b.map aJ).length:Int))=true by simp;omega]
   conv=>whnf
   refine af rfl ?_;have:(a==b)=false:=by
    rw[beq_eq_false_iff_ne];intro e;exact hl (by rw[e])
   rw[this];rfl
theorem Jj(a b:List Int)(ha:a.length<=200000):NQ.Fn cx 54 [.slice 1 (a.map bg),.slice 1 (b.map bg)] (.d (.bool (a==b))) []:=by
 refine aB aP mixed Tryz.func54 (by kernel_rfl) rfl (ai rfl) ?_;conv=>whnf
 by_cases hl:a.length=b.length
 . rw[show(((a.map bg).length:Int) != ((b.map bg).length:Int))=false by simp[hl]]
   conv=>whnf
   refine⟨Nat,λk=>⟨[(0,.d (.slice 1 (a.map bg))),(1,.d (.slice 1 (b.map bg))),(12,.d (.int .i64 ((a.map bg).length:Int))),(13,.d (.int .i64 k))],[]⟩,λk=>k<=a.length/\a.take k=b.take k,λk=>a.length-k,
    ⟨0,⟨Nat.zero_le _,rfl⟩,ag.keep ⟨ab,ab,ab,ab,trivial⟩ trivial⟩,λk ⟨hk,he⟩=>?_⟩
   dsimp only at hk he ⊢
   conv=>whnf
   refine ae (λh1=>?_) (λh1=>?_) <;> (rw[h1];conv=>whnf)
   . have hlt:k<a.length:=by simpa using h1
     obtain⟨x,hx⟩:∃x,a[k]? =some x:=⟨_,ah hlt⟩
     obtain⟨y,hy⟩:∃y,b[k]? =some y:=⟨_,ah (by omega)⟩
     (refine⟨(by kernel_rfl:bc _ _=true),?_⟩;conv=>whnf)
     refine⟨au k,bg x,aA hx,?_⟩
     conv=>whnf
     refine⟨au k,bg y,aA hy,?_⟩
     conv=>whnf
     by_cases hxy:x=y
     . rw[show(x != y)=false by simp[hxy]]
       conv=>whnf
       refine⟨k+1,⟨hlt,?_⟩,by(show a.length-(k+1)<a.length-k;omega),ag.keep ⟨ab,ab,ab,⟨ak (by omega),rfl⟩,trivial⟩ trivial⟩;rw[aV hx,aV hy,he,hxy]
     . rw[show(x != y)=true by simp[hxy]]
       conv=>whnf
       refine af rfl ?_;have:(a==b)=false:=by
        rw[beq_eq_false_iff_ne];intro e;rw[e,hy]at hx;exact hxy (by cases hx;rfl)
       rw[this];rfl
   . obtain rfl:k=a.length:=by simp at h1;omega
     refine af rfl ?_;have:(a==b)=true:=by
      rw[List.take_length,hl,List.take_length]at he;rw[he];simp
     rw[this];rfl
 . rw[show(((a.map bg).length:Int) != ((b.map bg).length:Int))=true by simp;omega]
   conv=>whnf
   refine af rfl ?_;have:(a==b)=false:=by
    rw[beq_eq_false_iff_ne];intro e;exact hl (by rw[e])
   rw[this];rfl
end Go.Proofs.YtjapjahfllomkaaGreatDoor
namespace NP
open NQ Go
def Nk(x y:List D):Int:=match x,y with|[.int _ k,.str z,.str n],[.int _ k',.str z',.str n']=>eB ⟨k,z,n⟩ ⟨k',z',n'⟩|_,_=>0
theorem w7(f g:Fnd):Nk (bD f) (bD g)=eB f g:=rfl
theorem sw{a b:Fnd}(h1:¬eB a b<0):eB b a<0\/a=b:=by
 rcases Classical.em (eB b a<0)with h2|h2
 . exact .inl h2
 . exact .inr (As h1 h2)
theorem zp(l:List Fnd):my eB l:=by
 refine⟨λx _=>sv x,λx _ y _ z _=>kX,λx _ y _ z _ h1 h2 h3=>?_⟩;rcases sw h1 with h4|rfl
 . rcases sw h2 with h5|rfl
   . exact sv x (kX h3 (kX h5 h4))
   . exact h1 h3
 . exact h2 h3
theorem OS{l:List Fnd}(h:l.Nodup):ga eB l=lr l:=by
 have hp:=jD (zp l);have hs:=vf (zp l);have hnd:(ga eB l).Nodup:=hp.nodup_iff.2 h;refine gH.ext ?_ (mS l) λx=>by rw[ov,hp.mem_iff]
 exact(hs.and hnd).imp λ{a b} ⟨h1,h2⟩=>(sw h1).elim id λe=>absurd e.symm h2
end NP
namespace Go.Proofs.YtjapjahfllomkaaGreatDoor
open NQ Go NP Go.RowKit
theorem Fc(l:List Fnd)(hv:∀f∈l,qm f)(hl:l.length<=100000)(fl:Bool):FnR cx 110 false 47 3 (l.map bD) fl [.fn 58 [] []] ((ga eB l).map bD):=by
 rw[<- Bd bD eB Nk l λx _ y _=>w7 x y];exact DT (cx:=cx) (ρ:=Tryz.wL) Tryz.OR (k:=3) Tryz.isAgg47 Tryz.sizeOf47 ⟨_,Tryz.func110,by kernel_rfl,rfl⟩
  (λx hx y hy=>by
   obtain⟨a,ha,rfl⟩:=List.mem_map.1 hx;obtain⟨b,hb,rfl⟩:=List.mem_map.1 hy;rw[w7];exact Et a b (hv a ha) (hv b hb)) (enters_of Tryz.func58 (by kernel_rfl) rfl) ((zp l).map λx _ y _=>w7 x y) (by rw[aj];omega)
end Go.Proofs.YtjapjahfllomkaaGreatDoor
namespace NQ
open Go
theorem Dd{fx:List Nat}{h:List (Nat×Blk)}(e:fx.all (λs=>(find h s).isSome)=true):∀s∈fx,live h s:=λs hs=>ax.1 e s hs
theorem Nj{fx:List Nat}{h:List (Nat×Blk)}(e:fx.all (λs=>Nat.ble 100000 s&&(match find h s with|some b=>yL b|none=>false))=true):∀s∈fx,100000<=s/\ ∃b,find h s=some b/\yL b=true:=λs hs=>by
 have:=ax.1 e s hs;rw[aC]at this;refine⟨ai this.1,?_⟩;have h2:=this.2;split at h2
 . rename_i b e;exact⟨b,e,h2⟩
 . cases h2
def JQ(m:List (List D×D)):Src:=⟨List (List D×D)×List (List D×D),([],m),λp x p' => ∃i kk v,p.2[i]? =some (kk,v)/\x=[uM kk]/\p' =(p.1++[(kk,v)],p.2.eraseIdx i),λp=>p.2=[]⟩
theorem sD{α:Type}:∀{l:List α} {i:Nat} {x:α},l[i]? =some x->(x::l.eraseIdx i).Perm l
 |[],i,x,h=>by simp at h
 |y::t,0,x,h=>by cases h;exact List.Perm.refl _
 |y::t,i+1,x,h=>by
  have:=sD (l:=t) (i:=i) (x:=x) (by simpa using h);rw[List.eraseIdx_cons_succ];exact(List.Perm.swap y x _).trans (this.cons y)
theorem Kv{α:Type}{T l m:List α}{i:Nat}{x:α}(h:(T++l).Perm m)(hx:l[i]? =some x):((T++[x])++l.eraseIdx i).Perm m:=by
 rw[List.append_assoc];exact((sD hx).append_left T).trans h
end NQ
namespace NP
open NQ Go
theorem LJ{l:List Fnd}{i:Nat}{kk:List D}{v:D}(h:(dg l)[i]? =some (kk,v)):∃f,l[i]? =some f/\kk=bD f/\v= .bool true:=by
 unfold dg at h;rw[aL]at h;cases hf:l[i]? with
 |none=>rw[hf]at h;cases h
 |some f=>rw[hf]at h;cases h;exact⟨f,rfl,rfl,rfl⟩
theorem sI:∀(l:List Fnd) (i:Nat),(dg l).eraseIdx i=dg (l.eraseIdx i)
 |[],_=>rfl
 |_::_,0=>rfl
 |f::t,i+1=>by
  show(bD f,D.bool true)::(dg t).eraseIdx i=(bD f,D.bool true)::dg (t.eraseIdx i)
  rw[sI t i]
def unF:List D×D->Fnd
 |([.int _ k,.str z,.str n],_)=>⟨k,z,n⟩
 |_=>⟨0,[],[]⟩
theorem Jt{T:List (List D×D)}{l:List Fnd}(h:T.Perm (dg l)):∃r:List Fnd,r.Perm l/\T=dg r:=by
 refine⟨T.map unF,?_,?_⟩
 . have:=h.map unF;have e:(dg l).map unF=l:=by
    unfold dg;rw[List.map_map];exact(List.map_congr_left λf _=>by cases f;rfl).trans (List.map_id l)
   rwa [e]at this
 . unfold dg;rw[List.map_map];have e:T.map ((λf=>(bD f,D.bool true)) ∘ unF)=T.map id:=List.map_congr_left λp hp=>by
    obtain⟨f,_,rfl⟩:=List.mem_map.1 (h.subset hp);cases f;rfl
   rw[e,List.map_id]
end NP
namespace Go.Proofs.YtjapjahfllomkaaGreatDoor
open NQ Go NP Go.RowKit
noncomputable def cxY:Cx:={cx with chg:=λg=>match Nat.beq g 109,Nat.beq g 180,Nat.beq g 110 with|true,_,_=>7|_,true,_=>7|_,_,true=>2|_,_,_=>cx.chg g}
theorem tyY:bq cxY:=aP
theorem Dl:cxY.P.follows .mixedOrders=true:=mixed
def yx(l:List Fnd):D:= .fn 111 [] [.ptr [.kmap (dg l)]]
theorem L4(l:List Fnd):NQ.Fn cx 57 [.kmap (dg l)] (.d (yx l)) []:=by
 refine aB aP mixed Tryz.func57 (by kernel_rfl) rfl (ai rfl) ?_;conv=>whnf
 exact af rfl rfl
theorem Hf(l:List Fnd):BO cx 111 [.ptr [.kmap (dg l)]] (JQ (dg l)):=by
 refine wj (fun|0=>[88888]|1=>[88888]|2=>[88888]|3=>[77777]|_=>[]) aP mixed Tryz.func111 (by kernel_rfl) rfl rfl (ai rfl) ?_
 conv=>whnf
 refine⟨rfl,?_⟩
 conv=>whnf
 refine⟨List Fnd×List Fnd×Option (List D×D),λx=>(((dg x.1,dg x.2.1),true),⟨[(1,.d (.ptr [.kmap (dg l)])),(5,.ptr 5 0)],[(5,.iter (dg x.2.1) x.2.2)]⟩),λ_=>True,λx=>x.2.1.length,
  ⟨([],l,none),trivial,rfl,ag.keep ⟨ab,ab,trivial⟩ ⟨ab,trivial⟩⟩,λ⟨T,L,cur⟩ _=>?_⟩
 dsimp only
 conv=>whnf
 refine⟨rfl,?_⟩
 conv=>whnf
 refine⟨λhnil=>?_,λi kk y hy=>?_⟩
 . conv=>whnf
   exact⟨trivial,λ_=>hnil⟩
 . obtain⟨f,hf,rfl,rfl⟩:=LJ hy
   conv=>whnf
   refine⟨rfl,?_⟩
   conv=>whnf
   repeat' (first|(refine⟨rfl,?_⟩;conv=>whnf)|fail)
   refine⟨_,(dg (T++[f]),dg (L.eraseIdx i)),⟨i,bD f,.bool true,hy,rfl,by rw[sI];unfold dg;rw[List.map_append];rfl⟩,rfl,λb=>?_⟩
   conv=>whnf
   have hlt:=(av.1 hf).1;cases b with
   |true =>
    repeat' (first|(refine⟨rfl,?_⟩;conv=>whnf)|fail)
    refine⟨(T++[f],L.eraseIdx i,some (bD f,.bool true)),trivial,by(show(L.eraseIdx i).length<L.length;rw[List.length_eraseIdx,if_pos hlt];omega),rfl,ag.keep ⟨ab,ab,trivial⟩ ⟨⟨?_,rfl⟩,trivial⟩⟩;rw[sI];rfl
   |false =>
    repeat' (first|(refine⟨rfl,?_⟩;conv=>whnf)|fail)
    exact⟨trivial,λh=>by cases h⟩
def tP(l:List Fnd):Type:={r:List Fnd // r.Perm l}
def BT(l:List Fnd)(r:tP l):List (Nat×Blk):=[(200,.row 47 3 (r.1.map bD))]
theorem Eo(l:List Fnd)(hl:l.length<=100000):FnC cx 180 [.nil 3,.d (yx l)] (λ_:tP l=> .own 200) (BT l):=by
 show FnC cxY _ _ _ _
 refine yn (λ_=>[]) tyY Dl Tryz.func180 (by kernel_rfl) rfl (ai rfl) ?_
 conv=>whnf
 refine⟨111,_,JQ (dg l),[(2,.ptr 100002 0),(6,.d (yx l))],Unit,(),λp _=>[(100002,.box [.own 200]),(200,.row 47 3 (p.1.map (·.1)))],[100002],λp _=>(p.1++p.2).Perm (dg l),
  (ag.zero (ag.s6 2 0 200 3 [.nil 3] 47 3 (by kernel_rfl) rfl (by kernel_rfl) (by decide))).trans ((ie.ren [2] (by kernel_rfl)).trans (ag.zero (ag.keep ⟨⟨(by kernel_rfl),(by kernel_rfl)⟩,⟨(by kernel_rfl),(by kernel_rfl)⟩,trivial⟩ ⟨⟨(by kernel_rfl),(by kernel_rfl)⟩,⟨(by kernel_rfl),(by kernel_rfl)⟩,trivial⟩))),
  ⟨rfl,Hf l,?_,rfl,rfl⟩,⟨ai rfl,Nj (by kernel_rfl),rfl,by kernel_rfl⟩,List.Perm.refl _,?_,?_⟩
 . rintro k x k' ⟨i,kk,v,_,rfl,_⟩;rfl
 . rintro⟨T,L⟩ x k' _ ⟨i,kk,v,hi,rfl,rfl⟩ hN;dsimp only at hi hN;have hTL:=hN.length_eq;have hmem:(kk,v)∈dg l:=hN.subset (List.mem_append.2 (.inr (ar hi)));obtain⟨f,_,he⟩:=List.mem_map.1 hmem;cases he;have hlen:T.length<=100000:=by
    rw[List.length_append]at hTL;unfold dg at hTL;rw[aj]at hTL;omega
   conv=>whnf
   refine⟨by(show(T.map (·.1)).length+1<=_);rw[aj];omega,by(show((T.map (·.1)).length+1)*40<=_);rw[aj];omega,?_⟩
   conv=>whnf
   refine⟨(),⟨?_,Dd (by kernel_rfl)⟩,Kv hN hi⟩;show ag cxY _ ⟨[],[(100002,.box [.own 200]),(200,.row 47 3 ((T++[(bD f,D.bool true)]).map (·.1)))]⟩
   rw[List.map_append];exact ag.keep trivial ⟨⟨(by kernel_rfl),(by kernel_rfl)⟩,⟨(by kernel_rfl),(by kernel_rfl)⟩,trivial⟩
 . rintro⟨T,L⟩ _ hfin hN;have hfin:L=[]:=hfin;subst hfin;rw[List.append_nil]at hN;obtain⟨r,hr,hTr⟩:=Jt hN;have hT:T=dg r:=hTr;subst hT;have e:(dg r).map (·.1)=r.map bD:=by unfold dg;rw[List.map_map];rfl
   dsimp only;rw[e]
   conv=>whnf
   exact⟨⟨r,hr⟩,tc (bs:=BT l ⟨r,hr⟩) rfl rfl ⟨⟨rfl,rfl⟩,trivial⟩⟩
theorem Cs(l:List Fnd)(hl:l.length<=100000):FnC cx 109 [.d (yx l)] (λ_:tP l=> .own 200) (BT l):=by
 show FnC cxY _ _ _ _
 refine yn (fun|1=>[88888]|_=>[]) tyY Dl Tryz.func109 (by kernel_rfl) rfl (ai rfl) ?_
 conv=>whnf
 refine⟨tP l,_,_,⟨Eo l hl,λr=>⟨rfl,rfl⟩⟩,λr=>?_⟩
 conv=>whnf
 exact⟨r,tc (bs:=BT l r) rfl rfl ⟨⟨rfl,rfl⟩,trivial⟩⟩
theorem Ii(l:List Fnd)(hnd:l.Nodup)(hv:∀f∈l,qm f)(hl:l.length<=100000):NQ.Fn cx 56 [yx l,.fn 58 [] []] (.d (.slice 3 ((lr l).map bD))) []:=by
 show NQ.Fn cxY _ _ _ _
 refine cK (fun|1=>[88888]|_=>[]) tyY Dl Tryz.func56 (by kernel_rfl) rfl (ai rfl) ?_
 conv=>whnf
 refine⟨tP l,_,_,⟨Cs l hl,λr=>⟨rfl,rfl⟩⟩,λ⟨r,hr⟩=>?_⟩;have hF:∀fl,FnR cxY 110 false 47 3 (r.map bD) fl [.fn 58 [] []] ((lr l).map bD):=λfl=>by
  have:=Fc r (λf hf=>hv f (hr.subset hf)) (by rw[hr.length_eq];exact hl) fl
  rwa [OS (hr.nodup_iff.2 hnd),rG λx=>hr.mem_iff]at this
 conv=>whnf
 refine⟨_,hF _,?_⟩
 conv=>whnf
 exact af rfl rfl
end Go.Proofs.YtjapjahfllomkaaGreatDoor
namespace NP
open NQ Go
theorem tQ{zs:List aq}:∀(f:Nat) (s:Bs),ao s=true->(aT s).length<f ->
 match iW zs f s with
  |some h=>(ba zs h).isSome=true/\aF s h=true/\h≠s/\ ∀b,(ba zs b).isSome=true->aF s b=true->b≠s->aF h b=true
  |none=> ∀b,(ba zs b).isSome=true->aF s b=true->b=s
 |0,s,_,h=>by omega
 |f+1,s,hv,hf=>by
  unfold iW;by_cases hs:s=[46]
  . rw[if_pos hs];intro b hb hu;subst hs;exact pr (kN b) hu
  . rw[if_neg hs];obtain⟨_,_,h3⟩:=iP hv (kN s) hs;have hps:bu s≠s:=λe=>by rw[e]at h3;omega
    by_cases hc:(ba zs (bu s)).isSome=true
    . rw[if_pos hc];exact⟨hc,mL hv,hps,λb hb hu hne=>mU hv hu hne.symm⟩
    . rw[if_neg hc];have ih:=tQ (zs:=zs) f (bu s) (dR hv) (by omega);have ne:∀b,(ba zs b).isSome=true->b≠bu s:=λb hb e=>hc (e ▸ hb)
      split at ih
      . rename_i h e;refine⟨ih.1,nW (mL hv) ih.2.1,λe2=>?_,λb hb hu hne=>ih.2.2.2 b hb (mU hv hu hne.symm) (ne b hb)⟩;have h4:=ih.2.1;rw[e2]at h4;exact hps (pr h4 (mL hv))
      . intro b hb hu;by_cases e:b=s
        . exact e
        . exact absurd (ih b hb (mU hv hu (Ne.symm e))) (ne b hb)
theorem vU(zs:List aq){s:Bs}(hv:ao s=true):match dq zs s with
 |some h=>(ba zs h).isSome=true/\aF s h=true/\h≠s/\ ∀b,(ba zs b).isSome=true->aF s b=true->b≠s->aF h b=true
 |none=> ∀b,(ba zs b).isSome=true->aF s b=true->b=s:=tQ _ s hv (Nat.lt_succ_self _)
theorem jS{zs:List aq}{p:aq}(hp:p∈zs):(ba zs p.zone.apex).isSome=true:=by
 cases h:ba zs p.zone.apex with
 |none=>exact absurd rfl (uf.1 h p hp)
 |some x=>rfl
theorem Gi{zs:List aq}(hz:∀p∈zs,ao p.zone.apex=true){a:Bs}(ha:ao a=true):(nN zs (-1) a a).map (λx=>x.2.zone.apex)=dq zs a:=by
 have ok:∀p:aq,km (-1) a a p=true ↔ p.zone.apex≠a/\aF a p.zone.apex=true:=λp=>by
  unfold km;simp
 have hs:=vU zs ha;cases hd:nN zs (-1) a a with
 |none =>
  have hno:=(tX _ _ _).1 hd;cases hb:dq zs a with
  |none=>rfl
  |some b =>
   rw[hb]at hs;obtain⟨h1,h2,h3,_⟩:=hs;cases hc:ba zs b with
   |none=>rw[hc]at h1;cases h1
   |some x =>
    obtain⟨c1,c2,_⟩:=dB hc;have:=hno.2 x.2 c1;rw[(ok x.2).2 ⟨by rw[c2];exact h3,by rw[c2];exact h2⟩]at this;cases this
 |some x =>
  obtain⟨m1,m2,m3⟩:=Lw hd;obtain⟨k1,k2⟩:=(ok x.2).1 m2;cases hb:dq zs a with
  |none =>
   rw[hb]at hs;exact absurd (hs _ (jS m1) k2) k1
  |some b =>
   rw[hb]at hs;obtain⟨h1,h2,h3,h4⟩:=hs;have hu:=h4 _ (jS m1) k2 k1;cases hc:ba zs b with
   |none=>rw[hc]at h1;cases h1
   |some y =>
    obtain⟨c1,c2,_⟩:=dB hc;have hk:=m3 y.2 c1 ((ok y.2).2 ⟨by rw[c2];exact h3,by rw[c2];exact h2⟩);have hl:=((dK _ _).1 hu).length_le;have hp:kE x.2.zone.apex=kE b:=by
     have hk:kE y.2.zone.apex<=kE x.2.zone.apex:=hk;rw[c2]at hk;rw[back_eq,back_eq,List.length_reverse,List.length_reverse]at hl;have h9:kE x.2.zone.apex<=kE b:=by unfold kE;omega
     omega
    exact congrArg some (L0 k2 h2 hp)
/-! ### Delegations -/
def bY(zs:List aq)(a:Bs):Option (List Datum):=match (if a=[46]then some a else dq zs a)with
 |none=>none
 |some b=>match ba zs b with
  |none=>none
  |some x=>(x.2.zone.sets.find? (is ⟨a,2⟩)).map λs=>s.set.data
theorem Ay{q:aQ}:∀{l:List Signed},RP l->l.filter (is q)=(l.find? (is q)).toList
 |[],_=>rfl
 |x::t,h=>by
  have ht:RP t:=(List.pairwise_cons.1 h).2;by_cases hx:is q x=true
  . rw[List.filter_cons_of_pos hx,List.find?_cons_of_pos hx];have:t.filter (is q)=[]:=List.filter_eq_nil_iff.2 λy hy hq=>by
     have e:x.place=y.place:=((iD q x).1 hx).trans ((iD q y).1 hq).symm;have exy:=RP.uniq h (List.mem_cons_self ..) (aK _ hy) e;have:=(List.pairwise_cons.1 h).1 y hy;rw[<- exy]at this;exact absurd this (by rw[(iZ.zero _ _).2 rfl];omega)
    rw[this];rfl
  . rw[List.filter_cons_of_neg hx,List.find?_cons_of_neg hx];exact Ay ht
theorem D3{z:az}(hv:aW z=true):RP z.sets:=(dw.1 hv).ord.rising.pw
theorem rZ{z:az}(hv:aW z=true)(a:Bs):bZ z a=match z.sets.find? (is ⟨a,2⟩)with|some s=>s.set.data.map (·.text)|none=>[]:=by
 have:bZ z a=(z.sets.filter (is ⟨a,2⟩)).flatMap λs=>s.set.data.map (·.text):=rfl
 rw[this,Ay (D3 hv)];cases z.sets.find? (is ⟨a,2⟩) <;> simp
theorem CA{s:gG}(h:dL s=true):0<s.data.length:=by
 obtain⟨d,hd⟩:=qI h;exact(av.1 hd).1
theorem sH{z:az}(hv:aW z=true){q:aQ}{s:Signed}(h:z.sets.find? (is q)=some s):s∈z.sets/\s.set.name=q.name/\s.set.type=q.type:=by
 have h1:=List.mem_of_find?_eq_some h;have h2:=List.find?_some h;unfold is at h2;simp only[aC,beq_iff_eq]at h2;exact⟨h1,h2.1,h2.2⟩
theorem sG{l:List Signed}{q:aQ}:(l.find? (is q)).isSome=bR l q:=by
 unfold bR;rw[Bool.eq_iff_iff,List.find?_isSome,List.any_eq_true]
theorem oU{w:ay}(hv:aU w=true){a:Bs}(hc:(ba w.zones a).isSome=true):bF w.zones a=match bY w.zones a with|some l=>(l.map (·.text),true)|none=>([],false):=by
 have hz:∀p∈w.zones,aW p.zone=true:=λp hp=>(bS hv p hp).1
 have main:∀b x,ba w.zones b=some x->fX w.zones b a=match x.2.zone.sets.find? (is ⟨a,2⟩)with|some s=>s.set.data.map (·.text)|none=>[]:=λb x hx=>by
  unfold fX;rw[hx];exact rZ (hz _ (dB hx).1) a
 unfold bF bY;by_cases ha:a=[46]
 . rw[if_pos ha];have e:dq w.zones a=none:=by unfold dq iW;rw[if_pos ha]
   rw[e,if_pos ha];dsimp only;cases hx:ba w.zones a with
   |none=>rw[hx]at hc;cases hc
   |some x =>
    dsimp only;rw[main a x hx];obtain⟨c1,c2,_⟩:=dB hx;have:=(dw.1 (hz _ c1)).serv;rw[c2, <- sG]at this;cases hf:x.2.zone.sets.find? (is ⟨a,2⟩)with
    |none=>rw[hf]at this;cases this
    |some s=>rfl
 . have e1:(if a=[46]then some a else dq w.zones a)=dq w.zones a:=if_neg ha;rw[e1];cases hb:dq w.zones a with
   |none=>dsimp only;rw[if_neg ha]
   |some b =>
    dsimp only;cases hx:ba w.zones b with
    |none =>
     have:fX w.zones b a=[]:=by unfold fX;rw[hx]
     rw[this];rfl
    |some x =>
     dsimp only;rw[main b x hx];cases hf:x.2.zone.sets.find? (is ⟨a,2⟩)with
     |none=>rfl
     |some s =>
      dsimp only[Option.map];have hvz:=hz _ (dB hx).1;have:=CA ((dw.1 hvz).ord.set s (sH hvz hf).1);rw[aj,decide_eq_true this]
theorem ye{s:gG}(h:dL s=true):∀d∈s.data,dZ (eH s.type) d=true:=λd hd=>by
 unfold dL at h;simp only[aC,ax,List.mem_range]at h;obtain⟨i,hi⟩:=cE hd;obtain⟨p,hp⟩:∃p,s.data[i-1]? =some p:=⟨_,ah (by have:=(av.1 hi).1;omega)⟩
 have:=h.2 i (av.1 hi).1;rw[sC hi hp]at this;unfold mD at this;simp only[Bool.not_eq_true',Bool.or_eq_false_iff,Bool.not_eq_false']at this;exact this.1
def qd(d:Datum):Prop:=d.n=0/\d.m=0
def kF(d:Datum):Prop:=d.text=[]/\d.m=0
theorem yT{s:gG}(h:dL s=true)(ht:s.type=2):∀d∈s.data,qd d:=λd hd=>by
 have:=ye h d hd;rw[ht]at this;unfold dZ eH within at this;simp only[aC,decide_eq_true_eq]at this;unfold qd;simp at this;omega
theorem xR{s:gG}(h:dL s=true)(ht:s.type=1):∀d∈s.data,kF d:=λd hd=>by
 have:=ye h d hd;rw[ht]at this;unfold dZ eH within jh at this;simp only[aC,decide_eq_true_eq]at this;unfold kF;simp at this;refine⟨?_,by omega⟩;simpa using this.2
theorem Bf:∀{a b:List Datum},(∀d∈a,qd d)->(∀d∈b,qd d)->a.map (·.text)=b.map (·.text)->a=b
 |[],[],_,_,_=>rfl
 |[],_::_,_,_,h=>by cases h
 |_::_,[],_,_,h=>by cases h
 |x::a,y::b,ha,hb,h=>by
  simp only[List.map_cons,List.cons.injEq]at h;have h1:=ha x (List.mem_cons_self ..);have h2:=hb y (List.mem_cons_self ..);rw[Bf (λd hd=>ha d (aK _ hd)) (λd hd=>hb d (aK _ hd)) h.2]
  congr 1
  obtain⟨t,n,m⟩:=x;obtain⟨t',n',m'⟩:=y;unfold qd at h1 h2;simp at h1 h2 h;simp[h1,h2,h.1]
theorem Dq:∀{a b:List Datum},(∀d∈a,kF d)->(∀d∈b,kF d)->a.map (·.n)=b.map (·.n)->a=b
 |[],[],_,_,_=>rfl
 |[],_::_,_,_,h=>by cases h
 |_::_,[],_,_,h=>by cases h
 |x::a,y::b,ha,hb,h=>by
  simp only[List.map_cons,List.cons.injEq]at h;have h1:=ha x (List.mem_cons_self ..);have h2:=hb y (List.mem_cons_self ..);rw[Dq (λd hd=>ha d (aK _ hd)) (λd hd=>hb d (aK _ hd)) h.2]
  congr 1
  obtain⟨t,n,m⟩:=x;obtain⟨t',n',m'⟩:=y;unfold kF at h1 h2;simp at h1 h2 h;simp[h1,h2,h.1]
def aY(w:ay)(n:Bs):List Datum:=gY (cN w ⟨n,1⟩)
theorem wV(w:ay)(n:Bs):cW w n=(aY w n).map (·.n):=rfl
theorem G5{w:ay}(hF:cU w)(hv:aU w=true):kT w.zones:=λp hp=>⟨hF.few p hp,(bS hv p hp).1⟩
theorem xS{w:ay}(hF:cU w)(hv:aU w=true){n:Bs}(h:aY w n≠[]):∃p∈w.zones,∃s∈p.zone.sets,s.set.type=1/\aY w n=s.set.data:=by
 unfold aY gY at h ⊢;split at h
 case isFalse=>exact absurd rfl h
 rename_i hA;rw[if_pos hA];split at h
 case h_2=>exact absurd rfl h
 rename_i s hs;have hm:=List.mem_of_getLast? hs;obtain⟨h1,h2⟩:=List.mem_filter.1 hm;unfold cN at h1;split at h1
 . cases h1
 . rename_i hq;have hq:bx ⟨n,1⟩=true:=by
    cases hb:bx ⟨n,1⟩with
    |true=>rfl
    |false=>rw[hv,hb]at hq;simp at hq
   obtain⟨p,hp,hsm⟩:=(rH (G5 hF hv) 9 ⟨n,1⟩ [] hq (λs hs=>by cases hs)).1 s h1;exact⟨p,hp,s,hsm,by simpa using h2,rfl⟩
theorem Em{w:ay}(hF:cU w)(hv:aU w=true)(n:Bs):∀d∈aY w n,kF d:=λd hd=>by
 obtain⟨p,hp,s,hs,ht,he⟩:=xS hF hv (n:=n) (λe=>by rw[e]at hd;cases hd);rw[he]at hd;exact xR ((dw.1 (bS hv p hp).1).ord.set s hs) ht d hd
theorem qp{w:ay}(hF:cU w)(hv:aU w=true)(n:Bs):(aY w n).length<=8:=by
 by_cases h:aY w n=[]
 . rw[h];exact Nat.zero_le _
 . obtain⟨p,hp,s,hs,ht,he⟩:=xS hF hv h;rw[he];exact pj ((dw.1 (bS hv p hp).1).ord.set s hs)
def kD(z:az):List Datum:=match z.sets.find? (is ⟨z.apex,2⟩)with|some s=>s.set.data|none=>[]
theorem Kb{z:az}(hv:aW z=true):bZ z z.apex=(kD z).map (·.text):=by
 rw[rZ hv];unfold kD;cases z.sets.find? (is ⟨z.apex,2⟩) <;> rfl
theorem Ka{z:az}(hv:aW z=true):∀d∈kD z,qd d:=λd hd=>by
 unfold kD at hd;cases hf:z.sets.find? (is ⟨z.apex,2⟩)with
 |none=>rw[hf]at hd;cases hd
 |some s =>
  rw[hf]at hd;obtain⟨h1,_,h3⟩:=sH hv hf;exact yT ((dw.1 hv).ord.set s h1) h3 d hd
theorem yh{w:ay}{a:Bs}{l:List Datum}(h:bY w.zones a=some l):∃b x s,(b=a/\a=[46]\/a≠[46]/\dq w.zones a=some b)/\ba w.zones b=some x/\x.2.zone.sets.find? (is ⟨a,2⟩)=some s/\l=s.set.data:=by
 unfold bY at h;have main:∀b,(match ba w.zones b with|none=>none|some x=>(x.2.zone.sets.find? (is ⟨a,2⟩)).map λs=>s.set.data)=some l-> ∃x s,ba w.zones b=some x/\x.2.zone.sets.find? (is ⟨a,2⟩)=some s/\l=s.set.data:=λb h=>by
  cases hc:ba w.zones b with
  |none=>rw[hc]at h;cases h
  |some x =>
   rw[hc]at h;dsimp only at h;cases hf:x.2.zone.sets.find? (is ⟨a,2⟩)with
   |none=>rw[hf]at h;cases h
   |some s=>rw[hf]at h;exact⟨x,s,rfl,hf,by simpa using h.symm⟩
 by_cases ha:a=[46]
 . rw[if_pos ha]at h;obtain⟨x,s,h1,h2,h3⟩:=main a h;exact⟨a,x,s,.inl ⟨rfl,ha⟩,h1,h2,h3⟩
 . rw[if_neg ha]at h;cases hb:dq w.zones a with
   |none=>rw[hb]at h;cases h
   |some b =>
    rw[hb]at h;obtain⟨x,s,h1,h2,h3⟩:=main b h;exact⟨b,x,s,.inr ⟨ha,rfl⟩,h1,h2,h3⟩
theorem Ew{w:ay}(hv:aU w=true){a:Bs}{l:List Datum}(h:bY w.zones a=some l):∀d∈l,qd d:=by
 obtain⟨b,x,s,_,h2,h3,rfl⟩:=yh h;have hz:=(bS hv _ (dB h2).1).1;obtain⟨k1,_,k3⟩:=sH hz h3;exact yT ((dw.1 hz).ord.set s k1) k3
theorem nO{w:ay}(hv:aU w=true){a:Bs}{l:List Datum}(h:bY w.zones a=some l):l.length<=8/\0<l.length/\ ∀d∈l,ao d.text=true:=by
 obtain⟨b,x,s,_,h2,h3,rfl⟩:=yh h;have hz:=(bS hv _ (dB h2).1).1;obtain⟨k1,_,k3⟩:=sH hz h3;have hs:=(dw.1 hz).ord.set s k1;exact⟨pj hs,CA hs,A8 hs k3⟩
/-! ### The reference's findings -/
def l9(w:ay)(z:az):List Fnd:=if bY w.zones z.apex=some (kD z)then[]else[⟨4,z.apex,z.apex⟩]
def nA(w:ay)(a n:Bs):List Fnd:=(if (aY w n).length=0 then[⟨3,a,n⟩]else[])++((aY w n).filter λd=> !bH w a d.n).map λ_=>⟨1,a,n⟩
def oR(w:ay)(a:Bs)(s:Signed):List Fnd:=if s.set.data=aY w s.set.name then[]else[⟨2,a,s.set.name⟩]
def qe(w:ay)(z:az):List Fnd:=l9 w z++((bY w.zones z.apex).getD []).flatMap (λd=>nA w z.apex d.text)++(z.sets.filter (eT z)).flatMap (oR w z.apex)
def uY(w:ay):List Fnd:=w.zones.flatMap λp=>match ba w.zones p.zone.apex with|some x=>qe w x.2.zone|none=>[]
theorem DH(w:ay)(a n:Bs)(f:Fnd):f∈nA w a n ↔ f∈mF w a n:=by
 unfold nA mF;rw[List.mem_append,List.mem_append,wV];have h1:((aY w n).map (·.n)).isEmpty=true ↔ (aY w n).length=0:=by
  cases aY w n <;> simp
 have h2:((aY w n).map (·.n)).any (λn=> !bH w a n)=true ↔ ∃d∈aY w n,bH w a d.n=false:=by
  simp
 have e1:(f∈if (aY w n).length=0 then[(⟨3,a,n⟩:Fnd)]else[]) ↔ (f∈if ((aY w n).map (·.n)).isEmpty=true then[(⟨3,a,n⟩:Fnd)]else[]):=by
  by_cases h:(aY w n).length=0
  . rw[if_pos h,if_pos (h1.2 h)]
  . rw[if_neg h,if_neg (λe=>h (h1.1 e))]
 have e2:(f∈((aY w n).filter λd=> !bH w a d.n).map λ_=>(⟨1,a,n⟩:Fnd)) ↔ (f∈if ((aY w n).map (·.n)).any (λn=> !bH w a n)=true then[(⟨1,a,n⟩:Fnd)]else[]):=by
  rw[List.mem_map];by_cases h:((aY w n).map (·.n)).any (λn=> !bH w a n)=true
  . rw[if_pos h,List.mem_singleton];obtain⟨d,hd,hs⟩:=h2.1 h;exact⟨λ⟨_,_,e⟩=>e.symm,λe=>⟨d,List.mem_filter.2 ⟨hd,by simp[hs]⟩,e.symm⟩⟩
  . rw[if_neg h];constructor
    . rintro⟨d,hd,_⟩;obtain⟨d1,d2⟩:=List.mem_filter.1 hd;exact absurd (h2.2 ⟨d,d1,by simpa using d2⟩) h
    . intro h;cases h
 rw[e1,e2]
theorem xD{w:ay}(hF:cU w)(hv:aU w=true){p:aq}(hp:p∈w.zones)(f:Fnd):f∈qe w p.zone ↔ f∈o6 w p.zone:=by
 have hz:=(bS hv p hp).1;unfold qe o6;rw[List.mem_append,List.mem_append,List.mem_append,List.mem_append];have hS:=oU hv (jS hp);have e1:l9 w p.zone=jq w p.zone:=by
  unfold l9 jq;rw[hS,Kb hz];cases hd:bY w.zones p.zone.apex with
  |none=>simp
  |some l =>
   dsimp only;by_cases e:l=kD p.zone
   . rw[if_pos (by rw[e]),if_pos (by rw[e];simp)]
   . rw[if_neg (λh=>e (by simpa using h)),if_neg (λh=>e (Bf (Ew hv hd) (Ka hz) (by simpa using h)))]
 have e2:(bF w.zones p.zone.apex).1=((bY w.zones p.zone.apex).getD []).map (·.text):=by
  rw[hS];cases bY w.zones p.zone.apex <;> rfl
 have e3:f∈(((bY w.zones p.zone.apex).getD []).flatMap λd=>nA w p.zone.apex d.text) ↔ f∈(bF w.zones p.zone.apex).1.flatMap (mF w p.zone.apex):=by
  rw[e2,List.mem_flatMap,List.mem_flatMap];constructor
  . rintro⟨d,hd,h⟩;exact⟨d.text,List.mem_map_of_mem hd,(DH _ _ _ _).1 h⟩
  . rintro⟨n,hn,h⟩;obtain⟨d,hd,rfl⟩:=List.mem_map.1 hn;exact⟨d,hd,(DH _ _ _ _).2 h⟩
 have e4:f∈(p.zone.sets.filter (eT p.zone)).flatMap (oR w p.zone.apex) ↔ f∈(p.zone.sets.filter (eT p.zone)).flatMap λs=>lT w p.zone.apex s.set:=by
  rw[List.mem_flatMap,List.mem_flatMap];refine exists_congr λs=>and_congr_right λhs=>?_
  obtain⟨h1,h2⟩:=List.mem_filter.1 hs;have ht:s.set.type=1:=by
   unfold eT at h2;simp only[aC,beq_iff_eq]at h2;exact h2.1
  have hpl:=xR ((dw.1 hz).ord.set s h1) ht;unfold oR lT;rw[wV];by_cases e:s.set.data=aY w s.set.name
  . rw[if_pos e,if_pos (by rw[<- e];simp)]
  . rw[if_neg e,if_neg (λh=>e (Dq hpl (Em hF hv _) (by simpa using Eq.symm (by simpa using h))))]
 rw[e1,e3,e4]
theorem yM{w:ay}(hF:cU w)(hv:aU w=true)(f:Fnd):f∈uY w ↔ f∈findAll w:=by
 have C:=jg hv;unfold uY findAll;rw[List.mem_flatMap,List.mem_flatMap];constructor
 . rintro⟨p,hp,h⟩;cases hc:ba w.zones p.zone.apex with
   |none=>rw[hc]at h;cases h
   |some x =>
    rw[hc]at h;obtain⟨c1,c2,_⟩:=dB hc;exact⟨x.2,(C.mem x.2).2 (by rw[c2,hc];rfl),(xD hF hv c1 f).1 h⟩
 . rintro⟨p,hp,h⟩;have hm:=(C.mem p).1 hp;refine⟨p,C.sub p hp,?_⟩;cases hc:ba w.zones p.zone.apex with
   |none=>rw[hc]at hm;cases hm
   |some x =>
    rw[hc]at hm;have:x.2=p:=by simpa using hm
    dsimp only;rw[this];exact(xD hF hv (C.sub p hp) f).2 h
theorem DI{w:ay}(hF:cU w)(hv:aU w=true):lr (uY w)=GW w:=rG (yM hF hv)
/-! ### Worlds with the same copies -/
theorem EA{w:ay}(hF:cU w)(hv:aU w=true)(f:Fnd):f∈findAll w ↔ ∃p,(ba w.zones p.zone.apex).map (·.2)=some p/\f∈qe w p.zone:=by
 have C:=jg hv;unfold findAll;rw[List.mem_flatMap];refine exists_congr λp=>?_
 rw[C.mem p];refine and_congr_right λh=>?_
 have hp:p∈w.zones:=by
  cases hc:ba w.zones p.zone.apex with
  |none=>rw[hc]at h;cases h
  |some x =>
   rw[hc]at h;have e:x.2=p:=by simpa using h
   rw[<- e];exact(dB hc).1
 exact(xD hF hv hp f).symm
theorem NU{zs:List aq}{p:aq}(h:(ba zs p.zone.apex).map (·.2)=some p):p∈zs:=by
 cases hc:ba zs p.zone.apex with
 |none=>rw[hc]at h;cases h
 |some x =>
  rw[hc]at h;have e:x.2=p:=by simpa using h
  rw[<- e];exact(dB hc).1
theorem Me{w:ay}{z:az}{f:Fnd}:f∈l9 w z ↔ f=⟨4,z.apex,z.apex⟩/\bY w.zones z.apex≠some (kD z):=by
 unfold l9;by_cases h:bY w.zones z.apex=some (kD z)
 . rw[if_pos h];simp[h]
 . rw[if_neg h];simp[h]
theorem Mf{w:ay}{a n:Bs}{f:Fnd}:f∈nA w a n ↔ (f=⟨3,a,n⟩/\aY w n=[])\/(f=⟨1,a,n⟩/\ ∃d∈aY w n,bH w a d.n=false):=by
 unfold nA;rw[List.mem_append,List.mem_map];refine or_congr ?_ ?_
 . by_cases h:aY w n=[]
   . simp[h]
   . rw[if_neg (λe=>h (List.eq_nil_of_length_eq_zero e))];simp[h]
 . constructor
   . rintro⟨d,hd,rfl⟩;obtain⟨h1,h2⟩:=List.mem_filter.1 hd;exact⟨rfl,d,h1,by simpa using h2⟩
   . rintro⟨rfl,d,h1,h2⟩;exact⟨d,List.mem_filter.2 ⟨h1,by simp[h2]⟩,rfl⟩
theorem Dh{w:ay}{a:Bs}{s:Signed}{f:Fnd}:f∈oR w a s ↔ f=⟨2,a,s.set.name⟩/\s.set.data≠aY w s.set.name:=by
 unfold oR;by_cases h:s.set.data=aY w s.set.name
 . rw[if_pos h];simp[h]
 . rw[if_neg h];simp[h]
theorem Mg{w:ay}{z:az}{f:Fnd}:f∈qe w z ↔ (f=⟨4,z.apex,z.apex⟩/\bY w.zones z.apex≠some (kD z)) \/
 (∃d∈(bY w.zones z.apex).getD [],(f=⟨3,z.apex,d.text⟩/\aY w d.text=[])\/(f=⟨1,z.apex,d.text⟩/\ ∃x∈aY w d.text,bH w z.apex x.n=false)) \/
 (∃s∈z.sets,eT z s=true/\f=⟨2,z.apex,s.set.name⟩/\s.set.data≠aY w s.set.name):=by
 unfold qe;rw[List.mem_append,List.mem_append,List.mem_flatMap,List.mem_flatMap,Me,or_assoc];refine or_congr Iff.rfl (or_congr ?_ ?_)
 . exact exists_congr λd=>and_congr_right λ_=>Mf
 . constructor
   . rintro⟨s,hs,h⟩;obtain⟨h1,h2⟩:=List.mem_filter.1 hs;obtain⟨h3,h4⟩:=Dh.1 h;exact⟨s,h1,h2,h3,h4⟩
   . rintro⟨s,h1,h2,h3,h4⟩;exact⟨s,List.mem_filter.2 ⟨h1,h2⟩,Dh.2 ⟨h3,h4⟩⟩
end NP
namespace NQ
open Go
def App(X:St->Prop)(s:St):Prop:=X s
theorem pM{α:Type}{G:Prop}{P:α->Prop}{canon:α->St}{X:St->Prop}(h1:(∀a,P a->App X (canon a))->G)(h2:∀a,P a->App X (canon a)):G:=h1 h2
theorem eM{cx:Cx}{st st1:St}{X:St->Prop}(hw:ag cx st st1)(h:App X st1):∃st',ag cx st st' /\X st' :=⟨st1,hw,h⟩
end NQ
namespace NP
open NQ Go
theorem oW{l:List Fnd}{f:Fnd}(h:l.Nodup):(nf l f).Nodup:=by
 unfold nf;split
 . exact h
 . rename_i hn;refine List.nodup_append.2 ⟨h,by simp,λa ha b hb e=>?_⟩;rw[List.mem_singleton]at hb;subst e;subst hb;exact hn (cq.2 ha)
theorem GS{w:ay}{a s:Bs}{e y:Bool}(he:(cW w s).isEmpty=e)(hy:((cW w s).any λn=> !bH w a n)=y):mF w a s=(if e=true then[⟨3,a,s⟩]else[])++(if y=true then[⟨1,a,s⟩]else[]):=by unfold mF;rw[he,hy]
theorem jT{α β:Type}{f:α->List β}{c:Nat}:∀{l:List α},(∀x∈l,(f x).length<=c)->(l.flatMap f).length<=c*l.length
 |[],_=>Nat.zero_le _
 |x::t,h=>by
  have h1:=h x (List.mem_cons_self ..);have h2:=jT (f:=f) (c:=c) (l:=t) λy hy=>h y (aK _ hy)
  rw[List.flatMap_cons,List.length_append,List.length_cons,Nat.mul_succ];omega
theorem wH{w:ay}(hv:aU w=true){p:aq}(hp:p∈w.zones):(bF w.zones p.zone.apex).1.length<=8/\ ∀s∈(bF w.zones p.zone.apex).1,ao s=true:=by
 rw[oU hv (jS hp)];cases hd:bY w.zones p.zone.apex with
 |none=>exact⟨Nat.zero_le _,λs hs=>by cases hs⟩
 |some l =>
  obtain⟨h1,_,h3⟩:=nO hv hd;refine⟨by show(l.map _).length<=8;rw[aj];exact h1,λs hs=>?_⟩;obtain⟨d,hd,rfl⟩:=List.mem_map.1 hs;exact h3 d hd
theorem Jm{w:ay}(hF:cU w)(hv:aU w=true){p:aq}(hp:p∈w.zones):(o6 w p.zone).length<=117:=by
 unfold o6;rw[List.length_append,List.length_append];have h1:(jq w p.zone).length<=1:=by unfold jq;split <;> simp
 have h2:=jT (f:=mF w p.zone.apex) (c:=2) (l:=(bF w.zones p.zone.apex).1) λs _=>by
  unfold mF;rw[List.length_append];split <;> split <;> simp
 have h3:=jT (f:=λs:Signed=>lT w p.zone.apex s.set) (c:=1) (l:=p.zone.sets.filter (eT p.zone)) λs _=>by
  show(lT w p.zone.apex s.set).length<=1
  unfold lT;split <;> simp
 have h4:=(wH hv hp).1;have h5:=(cS (hF.few p hp)).1;have h6:=List.length_filter_le (eT p.zone) p.zone.sets;omega
theorem rl{w:ay}(hF:cU w)(hv:aU w=true)(hz:w.zones.length<=100):(findAll w).length<=11700:=by
 have h1:=jT (f:=λp:aq=>o6 w p.zone) (c:=117) (l:=fg w.zones) λp hp=>Jm hF hv ((jg hv).sub p hp)
 have h2:=zo w.zones;unfold findAll;have:117*(fg w.zones).length<=117*100:=Nat.mul_le_mul_left _ (by omega);omega
theorem Ju{w:ay}(hF:cU w)(hv:aU w=true){f:Fnd}(h:f∈findAll w):ao f.zone=true/\ao f.name=true:=by
 obtain⟨p,hp,h⟩:=(EA hF hv f).1 h;have hm:=NU hp;have V:=dw.1 (bS hv p hm).1;have ha:=V.ord.apex;rcases Mg.1 h with ⟨rfl,h⟩|⟨d,hd,h⟩|⟨s,h1,h2,rfl,h4⟩
 . exact⟨ha,ha⟩
 . have hdv:ao d.text=true:=by
    cases hl:bY w.zones p.zone.apex with
    |none=>rw[hl]at hd;cases hd
    |some l=>rw[hl]at hd;exact(nO hv hl).2.2 d hd
   rcases h with ⟨rfl,_⟩|⟨rfl,_⟩
   . exact⟨ha,hdv⟩
   . exact⟨ha,hdv⟩
 . exact⟨ha,V.ord.name s h1⟩
theorem uQ{α β:Type}(f:α->β):∀(l:List α) (i:Nat),(l.map f).eraseIdx i=(l.eraseIdx i).map f
 |[],_=>rfl
 |_::_,0=>rfl
 |x::t,i+1=>by
  show f x::(t.map f).eraseIdx i=f x::(t.eraseIdx i).map f
  rw[uQ f t i]
structure NG(w:ay)(L:List aq)(m:List (Bs×List Int))(l:List Fnd):Prop where
 sub:∀p∈L,p∈fg w.zones
 cache:kV w m
 nodup:l.Nodup
 all:∀f,(f∈l\/f∈L.flatMap λp=>o6 w p.zone) ↔ f∈findAll w
theorem zT{β:Type}{f:aq->List β}{L:List aq}{i:Nat}{p:aq}(hp:L[i]? =some p)(x:β):x∈L.flatMap f ↔ x∈f p\/x∈(L.eraseIdx i).flatMap f:=by
 have h:=sD hp;rw[<- (h.flatMap_right f).mem_iff,List.flatMap_cons,List.mem_append]
end NP
namespace Go.Proofs.YtjapjahfllomkaaGreatDoor
open NQ Go NP Go.RowKit
def Qo:Nat->List Nat
 |1000=>[44444]
 |5=>[44444,88888]
 |6=>[88888]
 |7=>[88888]
 |8=>[6,7]
 |9=>[44444,88888]
 |11=>[88888]
 |12=>[55555]
 |15=>[88888]
 |17=>[88888]
 |18=>[55555]
 |19=>[88888]
 |23=>[66666]
 |24=>[88888]
 |25=>[20]
 |_=>[]
def vH(a:Bs):AV:= .fn 45 [] [.ptr 100005 0,.d (.ptr [.str a])]
def hN2(a:Bs)(l:List Fnd):List (Nat×Blk):=[(100005,.box [.omap 20]),(20,.kmap (dg l)),(300008,.box [vH a])]
theorem oB(l:List Fnd)(kind:Int)(s a:Bs):FnH cxF 45 [.d (.int .i64 kind),.d (.str s),.ptr 100005 0,.d (.ptr [.str a])] (hN2 a l) (.tuple []) (hN2 a (nf l ⟨kind,a,s⟩)):=by
 have hput:=FJ (f:=⟨kind,a,s⟩) (l:=l);refine kZ (λ_=>[]) tyF pW Tryz.func45 (by kernel_rfl) rfl (ai rfl) (ai rfl) ?_
 conv=>whnf
 refine⟨_,hput,?_⟩
 conv=>whnf
 exact⟨[],ag.keep trivial ⟨⟨rfl,rfl⟩,⟨rfl,rfl⟩,⟨rfl,rfl⟩,trivial⟩,rfl⟩
@[reducible] def stF (w:ay) (z:az) (S:List Bs) (left:List (List D×D)) (cur:Option (List D×D)) (m:List (Bs×List Int)) (l:List Fnd):St :=
 ⟨[(4,.ptr 100004 0),(5,.ptr 100005 0),(6,.d (.ptr [.str z.apex])),(7,.d (.ptr (aM z))),(8,.ptr 300008 0),(9,.d (.slice 1 (S.map aJ))),(23,.ptr 200023 0)],[(100004,.box (c7 w 18)),(18,.smap (cH m)),(100005,.box [.omap 20]),(20,.kmap (dg l)),(300008,.box [vH z.apex]),(200023,.iter left cur)]⟩
@[reducible] def stS (w:ay) (z:az) (S:List Bs) (k:Nat) (s:Bs) (AD:List Int) (left:List (List D×D)) (cur:Option (List D×D)) (m:List (Bs×List Int)) (l:List Fnd):St :=
 ⟨[(4,.ptr 100004 0),(5,.ptr 100005 0),(6,.d (.ptr [.str z.apex])),(7,.d (.ptr (aM z))),(8,.ptr 300008 0),(12,.d (.str s)),(13,.d (.slice 1 (AD.map bg))),(49,.d (.slice 1 (S.map aJ))),(50,.d (.int .i64 ((S.map aJ).length:Int))),(51,.d (.int .i64 k)),(23,.ptr 200023 0)],[(100004,.box (c7 w 18)),(18,.smap (cH m)),(100005,.box [.omap 20]),(20,.kmap (dg l)),(300008,.box [vH z.apex]),(200023,.iter left cur)]⟩
set_option maxHeartbeats 4000000 in
theorem CK(w:ay)(hF:cU w)(hv:aU w=true)(hz:w.zones.length<=100):NQ.Fn cx 13 [.agg (bw w)] (.tuple [.d (.slice 3 ((GW w).map bD)),.d (.int .i64 0)]) []:=by
 show NQ.Fn cxF _ _ _ _
 have fV:=qP w hF;rw[hv]at fV;have fC:=uU w hF hv;refine AB Qo tyF pW Tryz.func13 (by kernel_rfl) rfl (ai rfl) ?_
 conv=>whnf
 (refine⟨_,_,fV,?_⟩;conv=>whnf)
 (refine⟨_,_,fC,?_⟩;conv=>whnf)
 refine⟨⟨[(4,.ptr 100004 0),(5,.ptr 100005 0)],[(100004,.box (c7 w 18)),(18,.smap (cH [])),(100005,.box [.omap 20]),(20,.kmap (dg []))]⟩,(ie.ren [4,5] (by kernel_rfl)).trans (ag.zero (ag.keep ⟨⟨(by kernel_rfl),(by kernel_rfl)⟩,⟨(by kernel_rfl),(by kernel_rfl)⟩,trivial⟩ ⟨⟨(by kernel_rfl),(by kernel_rfl)⟩,⟨(by kernel_rfl),(by kernel_rfl)⟩,⟨(by kernel_rfl),(by kernel_rfl)⟩,⟨(by kernel_rfl),(by kernel_rfl)⟩,trivial⟩)),?_⟩
 conv=>whnf
 refine⟨⟨[(4,.ptr 100004 0),(5,.ptr 100005 0),(23,.ptr 200023 0)],[(100004,.box (c7 w 18)),(18,.smap (cH [])),(100005,.box [.omap 20]),(20,.kmap (dg [])),(200023,.iter ((cg (fg w.zones)).map cP) none)]⟩,(ie.qf 200000 [23] (by kernel_rfl)).trans (ag.zero (ag.keep ⟨⟨(by kernel_rfl),(by kernel_rfl)⟩,⟨(by kernel_rfl),(by kernel_rfl)⟩,⟨(by kernel_rfl),(by kernel_rfl)⟩,trivial⟩ ⟨⟨(by kernel_rfl),(by kernel_rfl)⟩,⟨(by kernel_rfl),(by kernel_rfl)⟩,⟨(by kernel_rfl),(by kernel_rfl)⟩,⟨(by kernel_rfl),(by kernel_rfl)⟩,⟨(by kernel_rfl),(by kernel_rfl)⟩,trivial⟩)),?_⟩
 conv=>whnf
 refine⟨List aq×Option (List D×D)×List (Bs×List Int)×List Fnd,λx=>⟨[(4,.ptr 100004 0),(5,.ptr 100005 0),(23,.ptr 200023 0)],[(100004,.box (c7 w 18)),(18,.smap (cH x.2.2.1)),(100005,.box [.omap 20]),(20,.kmap (dg x.2.2.2)),(200023,.iter ((cg x.1).map cP) x.2.1)]⟩,
  λx=>NG w x.1 x.2.2.1 x.2.2.2,λx=>x.1.length,
  ⟨(fg w.zones,none,[],[]),⟨λp hp=>hp,(λp hp=>by cases hp),List.nodup_nil,λf=>by simp[findAll]⟩,ag.keep ⟨ab,ab,ab,trivial⟩ ⟨ab,ab,ab,ab,ab,trivial⟩⟩,λ⟨L,cur,m,l⟩ K=>?_⟩
 dsimp only at K ⊢
 conv=>whnf
 refine⟨λhnil=>?_,λi kk y hy=>?_⟩
 . have hL:L=[]:=by
    unfold cg at hnil;simpa using hnil
   have hall:∀f,f∈l ↔ f∈findAll w:=λf=>by
    have:=K.all f;rw[hL]at this;simpa using this
   have hlen:l.length<=100000:=by
    have h1:=oA K.nodup λf hf=>(hall f).1 hf
    have h2:=rl hF hv hz;omega
   have fS:=Ii l K.nodup (λf hf=>Ju hF hv ((hall f).1 hf)) hlen;rw[rG hall]at fS
   conv=>whnf
   (refine⟨_,_,L4 l,?_⟩;conv=>whnf)
   (refine⟨_,_,fS,?_⟩;conv=>whnf)
   exact af rfl rfl
 . obtain⟨p,hp,hpe⟩:∃p,L[i]? =some p/\cP (p.zone.apex,.agg (aM p.zone))=(kk,y):=by
    rw[aL]at hy;unfold cg at hy;rw[aL]at hy;cases hL:L[i]? with
    |none=>rw[hL]at hy;cases hy
    |some p=>rw[hL]at hy;exact⟨p,rfl,by simpa using hy⟩
   cases hpe;have hpm:=(jg hv).sub p (K.sub p (ar hp));have hvz:=(bS hv p hpm).1;have hval:ao p.zone.apex=true:=(dw.1 hvz).ord.apex;have hfz:=cS (hF.few p hpm);have hpl:=(av.1 hp).1
   conv=>whnf
   refine⟨⟨[(4,.ptr 100004 0),(5,.ptr 100005 0),(6,.d (.ptr [.str p.zone.apex])),(7,.d (.ptr (aM p.zone))),(8,.ptr 300008 0),(23,.ptr 200023 0)],[(100004,.box (c7 w 18)),(18,.smap (cH m)),(100005,.box [.omap 20]),(20,.kmap (dg l)),(300008,.box [vH p.zone.apex]),(200023,.iter ((cg L).map cP |>.eraseIdx i) (some (cP (p.zone.apex,.agg (aM p.zone)))))]⟩,
    (ie.qf 300000 [8] (by kernel_rfl)).trans (ag.zero (ag.keep ⟨⟨(by kernel_rfl),(by kernel_rfl)⟩,⟨(by kernel_rfl),(by kernel_rfl)⟩,⟨(by kernel_rfl),(by kernel_rfl)⟩,⟨(by kernel_rfl),(by kernel_rfl)⟩,⟨(by kernel_rfl),(by kernel_rfl)⟩,⟨(by kernel_rfl),(by kernel_rfl)⟩,trivial⟩ ⟨⟨(by kernel_rfl),(by kernel_rfl)⟩,⟨(by kernel_rfl),(by kernel_rfl)⟩,⟨(by kernel_rfl),(by kernel_rfl)⟩,⟨(by kernel_rfl),(by kernel_rfl)⟩,⟨(by kernel_rfl),(by kernel_rfl)⟩,⟨(by kernel_rfl),(by kernel_rfl)⟩,trivial⟩)),?_⟩
   conv=>whnf
   refine⟨[100005,20,200023,300008],_,_,DQ w m p.zone.apex hF hv hval,⟨⟨by kernel_rfl,by kernel_rfl⟩,by kernel_rfl,by kernel_rfl,by kernel_rfl⟩,?_⟩;obtain⟨hS8,hSv⟩:=wH hv hpm;have hB:jq w p.zone=if ((bF w.zones p.zone.apex).2&&((bF w.zones p.zone.apex).1==bZ p.zone p.zone.apex))=true then[]else[⟨4,p.zone.apex,p.zone.apex⟩]:=rfl
   have hZ:o6 w p.zone=jq w p.zone++(bF w.zones p.zone.apex).1.flatMap (mF w p.zone.apex)++(p.zone.sets.filter (eT p.zone)).flatMap λs=>lT w p.zone.apex s.set:=rfl
   have hfl:=λf=>(zT (f:=λp=>o6 w p.zone) hp f)
   generalize hserv:bF w.zones p.zone.apex=SR at *
   obtain⟨S,ok⟩:=SR;dsimp only at hS8 hSv hB hZ
   conv=>whnf
   apply pM (α:=List Fnd) (P:=λl1=>l1.Nodup/\ ∀f,f∈l1 ↔ f∈l\/f∈jq w p.zone)
    (canon:=λl1=>stF w p.zone S ((cg L).map cP |>.eraseIdx i) (some (cP (p.zone.apex,.agg (aM p.zone)))) m l1)
   case h1 =>
    intro rest;have hPno:jq w p.zone=[]->l.Nodup/\ ∀f,f∈l ↔ f∈l\/f∈jq w p.zone:=λe=>⟨K.nodup,λf=>by rw[e];simp⟩
    have hPyes:jq w p.zone=[⟨4,p.zone.apex,p.zone.apex⟩]->(nf l ⟨4,p.zone.apex,p.zone.apex⟩).Nodup/\ ∀f,f∈nf l ⟨4,p.zone.apex,p.zone.apex⟩ ↔ f∈l\/f∈jq w p.zone:=λe=>⟨oW K.nodup,λf=>by rw[e,sS,List.mem_singleton]⟩
    cases ok with
    |false =>
     have e:jq w p.zone=[⟨4,p.zone.apex,p.zone.apex⟩]:=by rw[hB];rfl
     conv=>whnf
     refine⟨[100004,18,200023],_,_,oB l 4 p.zone.apex p.zone.apex,⟨⟨by kernel_rfl,by kernel_rfl⟩,by kernel_rfl,by kernel_rfl,by kernel_rfl⟩,?_⟩
     conv=>whnf
     exact eM (st1:=stF w p.zone S ((cg L).map cP |>.eraseIdx i) (some (cP (p.zone.apex,.agg (aM p.zone)))) m _) (ag.keep ⟨ab,ab,ab,ab,ab,ab,ab,trivial⟩ ⟨ab,ab,ab,ab,ab,ab,trivial⟩) (rest _ (hPyes e))
    |true =>
     conv=>whnf
     (refine⟨_,_,ou p.zone p.zone.apex (by omega) (λs hs=>by have:=(hfz.2 s hs).1;omega),?_⟩;conv=>whnf)
     (refine⟨_,_,Jk S (bZ p.zone p.zone.apex) (by omega),?_⟩;conv=>whnf)
     cases he:(S==bZ p.zone p.zone.apex)with
     |true =>
      have e:jq w p.zone=[]:=by rw[hB,he];rfl
      conv=>whnf
      exact eM (st1:=stF w p.zone S ((cg L).map cP |>.eraseIdx i) (some (cP (p.zone.apex,.agg (aM p.zone)))) m _) (ag.keep ⟨ab,ab,ab,ab,ab,ab,ab,trivial⟩ ⟨ab,ab,ab,ab,ab,ab,trivial⟩) (rest _ (hPno e))
     |false =>
      have e:jq w p.zone=[⟨4,p.zone.apex,p.zone.apex⟩]:=by rw[hB,he];rfl
      conv=>whnf
      refine⟨[100004,18,200023],_,_,oB l 4 p.zone.apex p.zone.apex,⟨⟨by kernel_rfl,by kernel_rfl⟩,by kernel_rfl,by kernel_rfl,by kernel_rfl⟩,?_⟩
      conv=>whnf
      exact eM (st1:=stF w p.zone S ((cg L).map cP |>.eraseIdx i) (some (cP (p.zone.apex,.agg (aM p.zone)))) m _) (ag.keep ⟨ab,ab,ab,ab,ab,ab,ab,trivial⟩ ⟨ab,ab,ab,ab,ab,ab,trivial⟩) (rest _ (hPyes e))
   case h2 =>
    rintro l1 ⟨hn1,hl1⟩;show kJ _ _ _ _ _ _ _
    conv=>whnf
    refine ⟨Nat × List (Bs × List Int) × List Fnd, fun x => ⟨[(4, .ptr 100004 0), (5, .ptr 100005 0), (6, .d (.ptr [.str p.zone.apex])), (7, .d (.ptr (aM p.zone))), (8, .ptr 300008 0), (49, .d (.slice 1 (S.map aJ))), (50, .d (.int .i64 ((S.map aJ).length : Int))), (51, .d (.int .i64 x.1)), (23, .ptr 200023 0)],
        [(100004,.box (c7 w 18)),(18,.smap (cH x.2.1)),(100005,.box [.omap 20]),(20,.kmap (dg x.2.2)),(300008,.box [vH p.zone.apex]),(200023,.iter ((cg L).map cP |>.eraseIdx i) (some (cP (p.zone.apex,.agg (aM p.zone)))))]⟩,
     λx=>x.1<=S.length/\kV w x.2.1/\x.2.2.Nodup/\ ∀f,f∈x.2.2 ↔ f∈l1\/f∈(S.take x.1).flatMap (mF w p.zone.apex),λx=>S.length-x.1,
     ⟨(0,m,l1),⟨Nat.zero_le _,K.cache,hn1,λf=>by simp⟩,ag.keep ⟨ab,ab,ab,ab,ab,ab,ab,ab,ab,trivial⟩ ⟨ab,ab,ab,ab,ab,ab,trivial⟩⟩,λ⟨k,m2,l2⟩ ⟨hk,hm2,hn2,hl2⟩=>?_⟩
    dsimp only at hk hm2 hn2 hl2 ⊢
    conv=>whnf
    refine ae (λh1=>?_) (λh1=>?_) <;> (rw[h1];conv=>whnf)
    . have hlt:k<S.length:=by simpa using h1
      obtain⟨s,hs⟩:∃s,S[k]? =some s:=⟨_,ah hlt⟩
      have hAl:=wW hF s;have hm3:=tZ hm2 s;have hfs:∀{e y:Bool},(cW w s).isEmpty=e->((cW w s).any λn=> !bH w p.zone.apex n)=y->mF w p.zone.apex s=(if e=true then[⟨3,p.zone.apex,s⟩]else[])++(if y=true then[⟨1,p.zone.apex,s⟩]else[]):=λhe hy=>GS he hy
      refine⟨au k,aJ s,aA hs,?_⟩
      conv=>whnf
      refine⟨[100005,20,300008,200023],_,_,rL w m2 s hF hv hm2,⟨⟨by kernel_rfl,by kernel_rfl⟩,by kernel_rfl,by kernel_rfl,by kernel_rfl⟩,?_⟩;generalize ka w m2 s=m3 at *
      generalize cW w s=AD at *
      conv=>whnf
      apply pM (α:=List Fnd) (P:=λl3=>l3.Nodup/\ ∀f,f∈l3 ↔ f∈l2\/f∈(if AD.isEmpty=true then[(⟨3,p.zone.apex,s⟩:Fnd)]else[]))
       (canon:=λl3=>stS w p.zone S k s AD ((cg L).map cP |>.eraseIdx i) (some (cP (p.zone.apex,.agg (aM p.zone)))) m3 l3)
      case h1 =>
       intro rest;refine ae (λh2=>?_) (λh2=>?_) <;> (rw[h2];conv=>whnf)
       . have he:AD.isEmpty=true:=by
          have h3:((AD.map bg).length:Int)=0:=by simpa using h2
          rw[aj]at h3;rw[List.isEmpty_iff_length_eq_zero];omega
         refine⟨[100004,18,200023],_,_,oB l2 3 s p.zone.apex,⟨⟨by kernel_rfl,by kernel_rfl⟩,by kernel_rfl,by kernel_rfl,by kernel_rfl⟩,?_⟩
         conv=>whnf
         exact eM (st1:=stS w p.zone S k s AD ((cg L).map cP |>.eraseIdx i) (some (cP (p.zone.apex,.agg (aM p.zone)))) m3 _) (ag.keep ⟨ab,ab,ab,ab,ab,ab,ab,ab,ab,ab,ab,trivial⟩ ⟨ab,ab,ab,ab,ab,ab,trivial⟩) (rest (nf l2 ⟨3,p.zone.apex,s⟩) ⟨oW hn2,λf=>by rw[sS,he,if_pos rfl,List.mem_singleton]⟩)
       . have he:AD.isEmpty=false:=by
          have h3:((AD.map bg).length:Int)≠0:=by first|exact beq_eq_false_iff_ne.1 h2|exact of_decide_eq_false h2
          cases AD with
          |nil=>exact absurd rfl h3
          |cons _ _=>rfl
         exact eM (st1:=stS w p.zone S k s AD ((cg L).map cP |>.eraseIdx i) (some (cP (p.zone.apex,.agg (aM p.zone)))) m3 _) (ag.keep ⟨ab,ab,ab,ab,ab,ab,ab,ab,ab,ab,ab,trivial⟩ ⟨ab,ab,ab,ab,ab,ab,trivial⟩) (rest l2 ⟨hn2,λf=>by rw[if_neg (λe=>by rw[he]at e;cases e)];simp⟩)
      case h2 =>
       rintro l3 ⟨hn3,hl3⟩;show kJ _ _ _ _ _ _ _
       conv=>whnf
       (refine⟨_,Gn w m3 p.zone.apex AD hAl,rfl,?_⟩;conv=>whnf)
       cases hy:(AD.any λn=> !bH w p.zone.apex n)with
       |true =>
        conv=>whnf
        refine⟨[100004,18,200023],_,_,oB l3 1 s p.zone.apex,⟨⟨by kernel_rfl,by kernel_rfl⟩,by kernel_rfl,by kernel_rfl,by kernel_rfl⟩,?_⟩
        conv=>whnf
        refine⟨(k+1,m3,nf l3 ⟨1,p.zone.apex,s⟩),⟨hlt,hm3,oW hn3,λf=>?_⟩,by(show S.length-(k+1)<S.length-k;omega),ag.keep ⟨ab,ab,ab,ab,ab,ab,ab,⟨ak (by omega),rfl⟩,ab,trivial⟩ ⟨ab,ab,ab,ab,ab,ab,trivial⟩⟩;rw[sS,hl3,hl2,aV hs,List.flatMap_append,List.mem_append,List.flatMap_cons,List.flatMap_nil,List.append_nil,hfs rfl hy,List.mem_append,if_pos rfl,List.mem_singleton,or_assoc,or_assoc]
       |false =>
        conv=>whnf
        refine⟨(k+1,m3,l3),⟨hlt,hm3,hn3,λf=>?_⟩,by(show S.length-(k+1)<S.length-k;omega),ag.keep ⟨ab,ab,ab,ab,ab,ab,ab,⟨ak (by omega),rfl⟩,ab,trivial⟩ ⟨ab,ab,ab,ab,ab,ab,trivial⟩⟩;rw[hl3,hl2,aV hs,List.flatMap_append,List.mem_append,List.flatMap_cons,List.flatMap_nil,List.append_nil,hfs rfl hy,List.mem_append,if_neg (show ¬(false=true) by simp),or_assoc];simp
    . obtain rfl:k=S.length:=by simp at h1;omega
      rw[List.take_length]at hl2
      (refine⟨_,_,Od p.zone (by omega),?_⟩;conv=>whnf)
      refine⟨108,_,FP (eS (eJ p.zone) p.zone.sets),[(4,.ptr 100004 0),(5,.ptr 100005 0),(6,.d (.ptr [.str p.zone.apex])),(8,.ptr 300008 0),(23,.ptr 200023 0),(72,.d (.fn 108 [] [.ptr (aM p.zone),.ptr [Gs p.zone]]))],
       List (Bs×List Int)×List Fnd,(m2,l2),λ(j:Nat) y=>[(100004,.box (c7 w 18)),(18,.smap (cH y.1)),(100005,.box [.omap 20]),(20,.kmap (dg y.2)),(300008,.box [vH p.zone.apex]),(200023,.iter ((cg L).map cP |>.eraseIdx i) (some (cP (p.zone.apex,.agg (aM p.zone)))))],
       [100004,100005,300008,200023],λ(j:Nat) y=>kV w y.1/\y.2.Nodup/\ ∀f,f∈y.2 ↔ f∈l2\/f∈((p.zone.sets.filter (eJ p.zone)).take j).flatMap λs=>lT w p.zone.apex s.set,
       ag.zero (ag.keep ⟨ab,ab,ab,ab,ab,ab,trivial⟩ ⟨ab,ab,ab,ab,ab,ab,trivial⟩),⟨rfl,JC p.zone hvz (by omega),λk x k' hx=>?_,rfl,rfl⟩,⟨ai rfl,Nj (by kernel_rfl),rfl,by kernel_rfl⟩,⟨hm2,hn2,λf=>by simp⟩,?_,?_⟩
      . obtain⟨s,_,rfl⟩:=List.mem_map.1 (ar hx.1);rfl
      . rintro j x j' ⟨m3,l3⟩ ⟨hx,rfl⟩ ⟨hm3,hn3,hl3⟩;dsimp only at hm3 hn3 hl3;obtain⟨s,hs,rfl⟩:∃s,(p.zone.sets.filter (eJ p.zone))[j]? =some s/\x=[.agg (mO s.set)]:=by
         unfold eS at hx;rw[aL]at hx;cases h:(p.zone.sets.filter (eJ p.zone))[j]? with
         |none=>rw[h]at hx;cases hx
         |some s=>rw[h]at hx;cases hx;exact⟨s,rfl,rfl⟩
        have hsm:=(List.mem_filter.1 (ar hs)).1;have hsd:=(hfz.2 s hsm).1;have hAl:=wW hF s.set.name;have hm4:=tZ hm3 s.set.name;have hG:lT w p.zone.apex s.set=if (cW w s.set.name==List.map (λx:Datum=>x.n) s.set.data)=true then[]else[⟨2,p.zone.apex,s.set.name⟩]:=rfl
        have hfold:∀f,f∈((p.zone.sets.filter (eJ p.zone)).take (j+1)).flatMap (λs=>lT w p.zone.apex s.set) ↔ f∈((p.zone.sets.filter (eJ p.zone)).take j).flatMap (λs=>lT w p.zone.apex s.set)\/f∈lT w p.zone.apex s.set:=λf=>by
         rw[aV hs,List.flatMap_append,List.mem_append,List.flatMap_cons,List.flatMap_nil,List.append_nil]
        conv=>whnf
        (refine⟨(by kernel_rfl:gV _=true),?_⟩;conv=>whnf)
        refine⟨[100005,20,300008,200023,14],_,_,rL w m3 s.set.name hF hv hm3,⟨⟨by kernel_rfl,by kernel_rfl⟩,by kernel_rfl,by kernel_rfl,by kernel_rfl⟩,?_⟩;generalize ka w m3 s.set.name=m4 at *
        generalize cW w s.set.name=AD at *
        (repeat (refine⟨by kernel_rfl,?_⟩));conv=>whnf
        (refine⟨_,_,mK s.set (by omega),?_⟩;conv=>whnf)
        (repeat (refine⟨by kernel_rfl,?_⟩));conv=>whnf
        (refine⟨_,_,Jj AD (List.map (λx:Datum=>x.n) s.set.data) (by omega),?_⟩;conv=>whnf)
        (repeat (refine⟨by kernel_rfl,?_⟩));conv=>whnf
        cases he:(AD==List.map (λx:Datum=>x.n) s.set.data)with
        |true =>
         rw[he,if_pos rfl]at hG
         conv=>whnf
         refine⟨(m4,l3),⟨ag.keep trivial ⟨⟨rfl,rfl⟩,⟨rfl,rfl⟩,⟨rfl,rfl⟩,⟨rfl,rfl⟩,⟨rfl,rfl⟩,⟨rfl,rfl⟩,trivial⟩,Dd (by kernel_rfl)⟩,hm4,hn3,λf=>?_⟩;dsimp only;rw[hl3,hfold,hG];simp
        |false =>
         rw[he,if_neg (by simp)]at hG
         conv=>whnf
         refine⟨[100004,18,200023,14],_,_,oB l3 2 s.set.name p.zone.apex,⟨⟨by kernel_rfl,by kernel_rfl⟩,by kernel_rfl,by kernel_rfl,by kernel_rfl⟩,?_⟩
         conv=>whnf
         refine⟨(m4,nf l3 ⟨2,p.zone.apex,s.set.name⟩),⟨ag.keep trivial ⟨⟨rfl,rfl⟩,⟨rfl,rfl⟩,⟨rfl,rfl⟩,⟨rfl,rfl⟩,⟨rfl,rfl⟩,⟨rfl,rfl⟩,trivial⟩,Dd (by kernel_rfl)⟩,hm4,oW hn3,λf=>?_⟩;dsimp only;rw[sS,hl3,hfold,hG,List.mem_singleton,or_assoc]
      . rintro j ⟨m3,l3⟩ hj ⟨hm3,hn3,hl3⟩;dsimp only at hm3 hn3 hl3;have hj:j=(eS (eJ p.zone) p.zone.sets).length:=hj;have hjl:(p.zone.sets.filter (eJ p.zone)).take j=p.zone.sets.filter (eJ p.zone):=by
         rw[hj];exact List.take_of_length_le (by unfold eS;rw[aj];exact Nat.le_refl _)
        have hgl:p.zone.sets.filter (eJ p.zone)=p.zone.sets.filter (eT p.zone):=List.filter_congr λs hs=>Oe hvz hs
        rw[hjl,hgl]at hl3
        conv=>whnf
        refine⟨(L.eraseIdx i,some (cP (p.zone.apex,.agg (aM p.zone))),m3,l3),⟨λq hq=>K.sub q (List.mem_of_mem_eraseIdx hq),hm3,hn3,λf=>?_⟩,by(show(L.eraseIdx i).length<L.length;rw[List.length_eraseIdx,if_pos hpl];omega),ag.keep ⟨ab,ab,ab,trivial⟩ ⟨ab,ab,ab,ab,⟨?_,rfl⟩,trivial⟩⟩
        . dsimp only;rw[<- K.all f,hfl,hZ,hl3,hl2,hl1,List.mem_append,List.mem_append,or_assoc,or_assoc,or_assoc,or_assoc,or_assoc]
        . have e:((cg L).map cP).eraseIdx i=(cg (L.eraseIdx i)).map cP:=by
           unfold cg;rw[uQ,uQ]
          show some (Blk.iter (((cg L).map cP).eraseIdx i) _)=some (Blk.iter ((cg (L.eraseIdx i)).map cP) _)
          rw[e]
theorem wF(a b:List Datum)(ha:a.length<=200000):NQ.Fn cx 25 [.slice 3 (a.map bd),.slice 3 (b.map bd)] (.d (.bool (decide (a=b)))) []:=by
 refine aB aP mixed Tryz.func25 (by kernel_rfl) rfl (ai rfl) ?_;conv=>whnf
 (refine ae (λh=>?_) (λh=>?_) <;> (rw[h];conv=>whnf))
 . exact af rfl (vG λe=>by subst e;simp at h)
 have h4:=Dc h;refine⟨Nat,λk=>⟨[(0,.d (.slice 3 (a.map bd))),(1,.d (.slice 3 (b.map bd))),(5,.d (.int .i64 k))],[]⟩,λk=>k<=a.length/\ ∀i,i<k->a[i]? =b[i]?, λk=>a.length-k,⟨0,⟨by omega,λi hi=>by omega⟩,ag.keep ⟨ab,ab,ab,trivial⟩ trivial⟩,λk ⟨hk,hall⟩=>?_⟩
 conv=>whnf
 refine ae (λh1=>?_) (λh1=>?_) <;> (rw[h1];conv=>whnf)
 . have hlt:k<a.length:=by simp at h1;omega
   obtain⟨x,hx⟩:∃s,a[k]? =some s:=⟨_,ah hlt⟩
   obtain⟨y,hy⟩:∃s,b[k]? =some s:=⟨_,ah (by omega)⟩
   (refine⟨(by kernel_rfl:bc _ _=true),?_⟩;conv=>whnf)
   refine⟨au k,bd x,aA hx,?_⟩
   conv=>whnf
   refine⟨au k,bd y,aA hy,?_⟩
   conv=>whnf
   (refine ae (λh=>?_) (λh=>?_) <;> (rw[h];conv=>whnf))
   . refine af rfl (vG λe=>?_);subst e;rw[hx]at hy;cases hy;simp at h
   . refine⟨k+1,⟨by omega,zm hall ?_⟩,by(show a.length-(k+1)<a.length-k;omega),ag.keep ⟨ab,ab,⟨ak (by omega),rfl⟩,trivial⟩ trivial⟩;rw[hx,hy];simp at h;cases x;cases y;simp at h ⊢;exact⟨h.1,h.2.1,h.2.2⟩
 . obtain rfl:k=a.length:=by simp at h1;omega
   exact af rfl (Ee (xe h4 hall))
theorem th(a b:List Fnd)(ha:a.length<=200000):NQ.Fn cx 17 [.slice 3 (a.map bD),.slice 3 (b.map bD)] (.d (.bool (decide (a=b)))) []:=by
 refine aB aP mixed Tryz.func17 (by kernel_rfl) rfl (ai rfl) ?_;conv=>whnf
 (refine ae (λh=>?_) (λh=>?_) <;> (rw[h];conv=>whnf))
 . exact af rfl (vG λe=>by subst e;simp at h)
 have h4:=Dc h;refine⟨Nat,λk=>⟨[(0,.d (.slice 3 (a.map bD))),(1,.d (.slice 3 (b.map bD))),(5,.d (.int .i64 k))],[]⟩,λk=>k<=a.length/\ ∀i,i<k->a[i]? =b[i]?, λk=>a.length-k,⟨0,⟨by omega,λi hi=>by omega⟩,ag.keep ⟨ab,ab,ab,trivial⟩ trivial⟩,λk ⟨hk,hall⟩=>?_⟩
 conv=>whnf
 refine ae (λh1=>?_) (λh1=>?_) <;> (rw[h1];conv=>whnf)
 . have hlt:k<a.length:=by simp at h1;omega
   obtain⟨x,hx⟩:∃s,a[k]? =some s:=⟨_,ah hlt⟩
   obtain⟨y,hy⟩:∃s,b[k]? =some s:=⟨_,ah (by omega)⟩
   (refine⟨(by kernel_rfl:bc _ _=true),?_⟩;conv=>whnf)
   refine⟨au k,bD x,aA hx,?_⟩
   conv=>whnf
   refine⟨au k,bD y,aA hy,?_⟩
   conv=>whnf
   (refine ae (λh=>?_) (λh=>?_) <;> (rw[h];conv=>whnf))
   . refine af rfl (vG λe=>?_);subst e;rw[hx]at hy;cases hy;simp at h
   . refine⟨k+1,⟨by omega,zm hall ?_⟩,by(show a.length-(k+1)<a.length-k;omega),ag.keep ⟨ab,ab,⟨ak (by omega),rfl⟩,trivial⟩ trivial⟩;rw[hx,hy];simp at h;cases x;cases y;simp at h ⊢;exact⟨h.1,h.2.1,h.2.2⟩
 . obtain rfl:k=a.length:=by simp at h1;omega
   exact af rfl (Ee (xe h4 hall))
theorem yP(a b:List Int)(ha:a.length<=200000):NQ.Fn cx 18 [.slice 1 (a.map bg),.slice 1 (b.map bg)] (.d (.bool (decide (a=b)))) []:=by
 refine aB aP mixed Tryz.func18 (by kernel_rfl) rfl (ai rfl) ?_;conv=>whnf
 (refine ae (λh=>?_) (λh=>?_) <;> (rw[h];conv=>whnf))
 . exact af rfl (vG λe=>by subst e;simp at h)
 have h4:=Dc h;refine⟨Nat,λk=>⟨[(0,.d (.slice 1 (a.map bg))),(1,.d (.slice 1 (b.map bg))),(5,.d (.int .i64 k))],[]⟩,λk=>k<=a.length/\ ∀i,i<k->a[i]? =b[i]?, λk=>a.length-k,⟨0,⟨by omega,λi hi=>by omega⟩,ag.keep ⟨ab,ab,ab,trivial⟩ trivial⟩,λk ⟨hk,hall⟩=>?_⟩
 conv=>whnf
 refine ae (λh1=>?_) (λh1=>?_) <;> (rw[h1];conv=>whnf)
 . have hlt:k<a.length:=by simp at h1;omega
   obtain⟨x,hx⟩:∃s,a[k]? =some s:=⟨_,ah hlt⟩
   obtain⟨y,hy⟩:∃s,b[k]? =some s:=⟨_,ah (by omega)⟩
   (refine⟨(by kernel_rfl:bc _ _=true),?_⟩;conv=>whnf)
   refine⟨au k,bg x,aA hx,?_⟩
   conv=>whnf
   refine⟨au k,bg y,aA hy,?_⟩
   conv=>whnf
   (refine ae (λh=>?_) (λh=>?_) <;> (rw[h];conv=>whnf))
   . refine af rfl (vG λe=>?_);subst e;rw[hx]at hy;cases hy;simp at h
   . refine⟨k+1,⟨by omega,zm hall ?_⟩,by(show a.length-(k+1)<a.length-k;omega),ag.keep ⟨ab,ab,⟨ak (by omega),rfl⟩,trivial⟩ trivial⟩;rw[hx,hy];simp at h;rw[h]
 . obtain rfl:k=a.length:=by simp at h1;omega
   exact af rfl (Ee (xe h4 hall))
end Go.Proofs.YtjapjahfllomkaaGreatDoor
namespace NP
open NQ Go
def vv:Option (Nat×aq)->Bs
 |some x=>x.2.zone.apex
 |none=>[]
theorem Am{zs:List aq}(hz:∀p∈zs,ao p.zone.apex=true){b:Option (Nat×aq)}(h:iT zs b):(vv b==[])=b.isNone:=by
 cases b with
 |none=>rfl
 |some x =>
  have:=M5 (hz x.2 (ar (h x rfl)));show(x.2.zone.apex==[])=false
  rw[beq_eq_false_iff_ne];exact this
theorem KZ(a:Bs)(p:aq):km (-1) a a p=((p.zone.apex != a)&&aF a p.zone.apex):=by
 unfold km;rw[show(decide ((-1:Int)>=0))=false from rfl,iM,dE,Bool.not_or,oL];rfl
theorem Fy{z:az}(hv:aW z=true)(q:aQ):match z.sets.find? (is q)with|some s=> ∃k:Nat,atI z.sets q=(k:Int)/\z.sets[k]? =some s/\s∈z.sets|none=>atI z.sets q<0:=by
 have hR:=D3 hv;cases hf:z.sets.find? (is q)with
 |none =>
  have h1:bR z.sets q=false:=by rw[<- sG,hf];rfl
  have:=iX z.sets q;rw[h1]at this;exact of_decide_eq_true this
 |some s =>
  have h1:bR z.sets q=true:=by rw[<- sG,hf];rfl
  obtain⟨k,s',hk,hs,hp⟩:=nJ h1;have hm:=List.mem_of_find?_eq_some hf;have hp2:s.place=q.place:=(iD q s).1 (List.find?_some hf);have:s' =s:=RP.uniq hR (ar hs) hm (hp.trans hp2.symm);subst this;exact⟨k,hk,hs,hm⟩
def setOf(zs:List aq)(b:Bs)(q:aQ):Option (List Datum):=match ba zs b with|none=>none|some x=>(x.2.zone.sets.find? (is q)).map λs=>s.set.data
theorem rj(zs:List aq)(a:Bs):bY zs a=match (if a=[46]then some a else dq zs a)with|none=>none|some b=>setOf zs b ⟨a,2⟩:=rfl
end NP
namespace Go.Proofs.YtjapjahfllomkaaGreatDoor
open NQ Go NP Go.RowKit
theorem Gh(w:ay)(a:Bs)(ha:ao a=true)(hz:∀p∈w.zones,ao p.zone.apex=true)(hl:w.zones.length<=100000) :
 NQ.Fn cx 83 [.agg (bw w),.str a] (.tuple [.d (.str ((dq w.zones a).getD [])),.d (.bool (dq w.zones a).isSome)]) []:=by
 have hab:=Gi hz ha;have hn:=bz ha;have hres:(vv (nN w.zones (-1) a a),(vv (nN w.zones (-1) a a) != []))=((dq w.zones a).getD [],(dq w.zones a).isSome):=by
  rw[<- hab];have:=Am hz (Lv w.zones (-1) a a);unfold bne;rw[this];cases nN w.zones (-1) a a <;> rfl
 refine aB aP mixed Tryz.func83 (by kernel_rfl) rfl (ai rfl) ?_;conv=>whnf
 refine⟨Nat×Option (Nat×aq),λx=>⟨[(1,.d (.str a)),(2,.ptr 2 0),(6,.d (.str (vv x.2))),(7,.d (.int .i64 x.1))],[(2,.box ((bw w).map .d))]⟩,
  λx=>x.1<=w.zones.length/\iT w.zones x.2/\fM (km (-1) a a) yf x.1 (w.zones.drop x.1) x.2=nN w.zones (-1) a a,λx=>w.zones.length-x.1,
  ⟨(0,none),⟨Nat.zero_le _,(λx hx=>by cases hx),rfl⟩,ag.keep ⟨ab,ab,ab,ab,trivial⟩ ⟨ab,trivial⟩⟩,λ⟨k,b⟩ ⟨hk,hb,hinv⟩=>?_⟩
 dsimp only at hk hb hinv ⊢
 conv=>whnf
 refine ae (λh1=>?_) (λh1=>?_) <;> (rw[h1];conv=>whnf)
 . have hlt:k<w.zones.length:=by simpa using h1
   obtain⟨p,hp⟩:∃p,w.zones[k]? =some p:=⟨_,ah hlt⟩
   have hpv:=hz p (ar hp);rw[An hp]at hinv;have next:∀b',b' =bU (km (-1) a a) yf k p b->(k+1<=w.zones.length/\iT w.zones b' /\fM (km (-1) a a) yf (k+1) (w.zones.drop (k+1)) b' =nN w.zones (-1) a a):=λb' e=>by
    rw[e];exact⟨hlt,hb.step hp,hinv⟩
   refine⟨au k,bn p,aA hp,?_⟩
   conv=>whnf
   have hok:=KZ a p;unfold bne at hok;cases h2:(p.zone.apex==a)with
   |true =>
    rw[h2]at hok
    conv=>whnf
    exact⟨(k+1,b),next _ (by unfold bU;rw[if_neg (by rw[hok];simp)]),by(show w.zones.length-(k+1)<w.zones.length-k;omega),ag.keep ⟨ab,ab,ab,⟨ak (by omega),rfl⟩,trivial⟩ ⟨ab,trivial⟩⟩
   |false =>
    rw[h2]at hok
    conv=>whnf
    (refine⟨_,_,lH a p.zone.apex hn (bz hpv),?_⟩;conv=>whnf)
    cases h3:aF a p.zone.apex with
    |false =>
     conv=>whnf
     exact⟨(k+1,b),next _ (by unfold bU;rw[if_neg (by rw[hok,h3];simp)]),by(show w.zones.length-(k+1)<w.zones.length-k;omega),ag.keep ⟨ab,ab,ab,⟨ak (by omega),rfl⟩,trivial⟩ ⟨ab,trivial⟩⟩
    |true =>
     have hokk:km (-1) a a p=true:=by rw[hok,h3];rfl
     conv=>whnf
     cases b with
     |none =>
      conv=>whnf
      exact⟨(k+1,some (k,p)),next _ (by unfold bU;rw[if_pos hokk]),by(show w.zones.length-(k+1)<w.zones.length-k;omega),ag.keep ⟨ab,ab,ab,⟨ak (by omega),rfl⟩,trivial⟩ ⟨ab,trivial⟩⟩
     |some x =>
      have hx:=hb x rfl;have hxv:=hz x.2 (ar hx);have hne:((vv (some x))==[])=false:=Am hz hb;rw[hne]
      conv=>whnf
      (refine⟨_,_,sh p.zone.apex (by have:=bz hpv;omega),?_⟩;conv=>whnf)
      (refine⟨_,_,sh (vv (some x)) (by have:=bz hxv;show x.2.zone.apex.length<=_;omega),?_⟩;conv=>whnf)
      refine ae (λg2=>?_) (λg2=>?_) <;> (rw[g2];conv=>whnf)
      . exact⟨(k+1,some (k,p)),next _ (by
         unfold bU;rw[if_pos hokk];dsimp only;rw[if_pos (by have:=of_decide_eq_true g2;rw[aj,aj]at this;exact decide_eq_true this)]),by(show w.zones.length-(k+1)<w.zones.length-k;omega),ag.keep ⟨ab,ab,ab,⟨ak (by omega),rfl⟩,trivial⟩ ⟨ab,trivial⟩⟩
      . exact⟨(k+1,some x),next _ (by
         unfold bU;rw[if_pos hokk];dsimp only;rw[if_neg (by have:=of_decide_eq_false g2;rw[aj,aj]at this;intro h;exact this (of_decide_eq_true h))]),by(show w.zones.length-(k+1)<w.zones.length-k;omega),ag.keep ⟨ab,ab,ab,⟨ak (by omega),rfl⟩,trivial⟩ ⟨ab,trivial⟩⟩
 . obtain rfl:k=w.zones.length:=by simp at h1;omega
   refine af rfl ?_;have hb' :b=nN w.zones (-1) a a:=by rw[<- hinv,List.drop_length];rfl
   rw[hb'];have e1:=congrArg Prod.fst hres;have e2:=congrArg Prod.snd hres;dsimp only at e1 e2;rw[<- e1, <- e2];rfl
def Qn:Nat->List Nat
 |7=>[55555,66666]
 |8=>[55555]
 |_=>[]
@[reducible] def MP (w:ay) (a b:Bs):St:=⟨[(1,.d (.str a)),(2,.ptr 2 0),(6,.d (.str b))],[(2,.box ((bw w).map .d))]⟩
@[reducible] def PR (w:ay) (a:Bs) (z:az):St:=⟨[(1,.d (.str a)),(2,.ptr 2 0),(9,.ptr 9 0)],[(2,.box ((bw w).map .d)),(9,.box ((aM z).map .d))]⟩
theorem yg(w:ay)(a:Bs)(hF:cU w)(hv:aU w=true)(ha:ao a=true)(hc:(ba w.zones a).isSome=true) :
 NQ.Fn cx 34 [.agg (bw w),.str a] (.tuple [.d (.slice 3 (((bY w.zones a).getD []).map bd)),.d (.bool (bY w.zones a).isSome)]) []:=by
 have hz:∀p∈w.zones,aW p.zone=true:=λp hp=>(bS hv p hp).1
 have hzn:∀p∈w.zones,ao p.zone.apex=true:=λp hp=>(dw.1 (hz p hp)).ord.apex
 have hzl:=hF.zones;have hab:=vU w.zones ha;refine cK Qn aP mixed Tryz.func34 (by kernel_rfl) rfl (ai rfl) ?_
 conv=>whnf
 apply pM (α:=Bs) (P:=λb=>(ba w.zones b).isSome=true/\bY w.zones a=setOf w.zones b ⟨a,2⟩) (canon:=MP w a)
 case h1 =>
  intro rest;cases h2:(a==[46])with
  |true =>
   have e:a=[46]:=by simpa using h2
   conv=>whnf
   exact eM (st1:=MP w a a) (ag.keep ⟨ab,ab,ab,trivial⟩ ⟨ab,trivial⟩) (rest a ⟨hc,by rw[rj,if_pos e]⟩)
  |false =>
   have e:¬a=[46]:=by simpa using h2
   conv=>whnf
   (refine⟨_,_,Gh w a ha hzn (by omega),?_⟩;conv=>whnf)
   cases hb:dq w.zones a with
   |none =>
    have e2:bY w.zones a=none:=by rw[rj,if_neg e,hb]
    rw[e2]
    conv=>whnf
    exact af rfl rfl
   |some b =>
    rw[hb]at hab
    conv=>whnf
    exact eM (st1:=MP w a b) (ag.keep ⟨ab,ab,ab,trivial⟩ ⟨ab,trivial⟩) (rest b ⟨hab.1,by rw[rj,if_neg e,hb]⟩)
 case h2 =>
  rintro b ⟨hbc,hdel⟩;rw[hdel];cases hx:ba w.zones b with
  |none=>rw[hx]at hbc;cases hbc
  |some x =>
   have hxz:=sA w.zones b x hx;have hxm:=ar hxz;have hxv:=hz x.2 hxm;have hset:setOf w.zones b ⟨a,2⟩=(x.2.zone.sets.find? (is ⟨a,2⟩)).map λs=>s.set.data:=by unfold setOf;rw[hx]
   rw[hset];have hat:=Fy hxv ⟨a,2⟩;have fC:=pK w.zones b hz (by omega);rw[hx]at fC;have fA:=vu x.2.zone ⟨a,2⟩ (by have:=(cS (hF.few x.2 hxm)).1;omega);show kJ _ _ _ _ _ _ _
   conv=>whnf
   (refine⟨(by kernel_rfl:gV _=true),?_⟩;conv=>whnf)
   apply pM (α:=Unit) (P:=λ_=>True) (canon:=λ_=>PR w a x.2.zone)
   case h1 =>
    intro rest2
    repeat' (first
     |(exact eM (st1:=PR w a x.2.zone) (ag.keep ⟨ab,ab,ab,trivial⟩ ⟨ab,ab,trivial⟩) (rest2 () trivial))
     |(refine⟨_,_,fC,?_⟩;conv=>whnf)
     |(refine⟨au x.1,bn x.2,aA hxz,?_⟩;conv=>whnf)
     |(refine⟨by kernel_rfl,?_⟩;conv=>whnf)
     |(refine⟨?_,?_⟩ <;> (conv=>whnf))
     |fail)
   case h2 =>
    rintro _ _;show kJ _ _ _ _ _ _ _
    conv=>whnf
    (refine⟨_,_,fA,?_⟩;conv=>whnf)
    cases hf:x.2.zone.sets.find? (is ⟨a,2⟩)with
    |none =>
     rw[hf]at hat;refine ae (λh3=>?_) (λh3=>?_) <;> (rw[h3];conv=>whnf)
     . exact af rfl rfl
     . exact absurd hat (of_decide_eq_false h3)
    |some s =>
     rw[hf]at hat;obtain⟨k,hk,hs,_⟩:=hat;refine ae (λh3=>?_) (λh3=>?_) <;> (rw[h3];conv=>whnf)
     . have:=of_decide_eq_true h3;omega
     . refine⟨by omega,an s,by rw[hk,Int.toNat_natCast];exact aA hs,?_⟩
       conv=>whnf
       exact af rfl rfl
theorem wI(w:ay)(n:Int)(a:Bs)(hF:cU w)(hv:aU w=true):NQ.Fn cx 24 [.agg (bw w),.int .i64 n,.str a] (.d (.bool (bH w a n))) []:=by
 have hzl:=hF.zones;refine aB aP mixed Tryz.func24 (by kernel_rfl) rfl (ai rfl) ?_;conv=>whnf
 (refine⟨_,_,CU w.hosts n (by have:=hF.hosts;omega),?_⟩;conv=>whnf)
 refine⟨Nat,λk=>⟨[(2,.d (.str a)),(3,.ptr 3 0),(7,.d (.int .i64 (ij w.hosts n))),(8,.d (.int .i64 k))],[(3,.box ((bw w).map .d))]⟩,λk=>k<=w.zones.length/\(w.zones.take k).any (λp=>(p.zone.apex==a)&&(addrOf w.hosts p.host==n))=false,λk=>w.zones.length-k,
  ⟨0,⟨Nat.zero_le _,rfl⟩,ag.keep ⟨ab,ab,ab,ab,trivial⟩ ⟨ab,trivial⟩⟩,λk ⟨hk,hno⟩=>?_⟩
 dsimp only at hk hno ⊢
 conv=>whnf
 refine ae (λh1=>?_) (λh1=>?_) <;> (rw[h1];conv=>whnf)
 . have hlt:k<w.zones.length:=by simpa using h1
   obtain⟨p,hp⟩:∃p,w.zones[k]? =some p:=⟨_,ah hlt⟩
   have hpm:=ar hp;have hha:=AF hv hpm n;have on:((p.zone.apex==a)&&(addrOf w.hosts p.host==n))=false->(w.zones.take (k+1)).any (λp=>(p.zone.apex==a)&&(addrOf w.hosts p.host==n))=false:=λe=>by
    rw[aV hp,List.any_append,hno,List.any_cons,List.any_nil,e];rfl
   refine⟨au k,bn p,aA hp,?_⟩
   conv=>whnf
   cases h2:(p.host==ij w.hosts n)with
   |false =>
    conv=>whnf
    exact⟨k+1,⟨hlt,on (by rw[<- hha,h2,gT])⟩,by(show w.zones.length-(k+1)<w.zones.length-k;omega),ag.keep ⟨ab,ab,ab,⟨ak (by omega),rfl⟩,trivial⟩ ⟨ab,trivial⟩⟩
   |true =>
    conv=>whnf
    refine⟨au k,bn p,aA hp,?_⟩
    conv=>whnf
    cases h3:(p.zone.apex==a)with
    |false =>
     conv=>whnf
     exact⟨k+1,⟨hlt,on (by rw[h3,iM])⟩,by(show w.zones.length-(k+1)<w.zones.length-k;omega),ag.keep ⟨ab,ab,ab,⟨ak (by omega),rfl⟩,trivial⟩ ⟨ab,trivial⟩⟩
    |true =>
     conv=>whnf
     refine af rfl ?_;have:bH w a n=true:=by
      unfold bH;rw[List.any_eq_true];exact⟨p,hpm,by rw[h3, <- hha,h2];rfl⟩
     rw[this];rfl
 . obtain rfl:k=w.zones.length:=by simp at h1;omega
   refine af rfl ?_;rw[List.take_length]at hno;have:bH w a n=false:=hno;rw[this];rfl
theorem Ep(a b:Fnd)(ha:qm a)(hb:qm b):NQ.Fn cx 192 [.agg (bD a),.agg (bD b)] (.d (.bool (decide (eB a b<0)))) []:=by
 have hlt:=vy a b;have hz:=bl.zero a.zone b.zone;refine aB aP mixed Tryz.func192 (by kernel_rfl) rfl (ai rfl) ?_;conv=>whnf
 refine ae (λh1=>?_) (λh1=>?_) <;> (rw[h1];conv=>whnf)
 . have e1:a.kind≠b.kind:=by simpa using h1
   refine af rfl ?_;have:decide (eB a b<0)=decide (a.kind<b.kind):=by
    rw[Bool.eq_iff_iff,decide_eq_true_iff,decide_eq_true_iff,hlt];exact⟨λh=>h.elim id λh=>absurd h.1 e1,.inl⟩
   rw[this];rfl
 . have e1:a.kind=b.kind:=by simpa using h1
   (refine⟨_,_,qn a.zone b.zone (bz ha.1) (bz hb.1),?_⟩;conv=>whnf)
   refine ae (λh2=>?_) (λh2=>?_) <;> (rw[h2];conv=>whnf)
   . have e2:aH a.zone b.zone≠0:=by simpa using h2
     refine af rfl ?_;have:decide (eB a b<0)=decide (aH a.zone b.zone<0):=by
      rw[Bool.eq_iff_iff,decide_eq_true_iff,decide_eq_true_iff,hlt];constructor
      . rintro(h|⟨_,h|⟨h,_⟩⟩)
        . omega
        . exact h
        . exact absurd (hz.2 h) e2
      . exact λh=> .inr ⟨e1,.inl h⟩
     rw[this];rfl
   . have e2:aH a.zone b.zone=0:=by simpa using h2
     (refine⟨_,_,qn a.name b.name (bz ha.2) (bz hb.2),?_⟩;conv=>whnf)
     refine af rfl ?_;have:decide (eB a b<0)=decide (aH a.name b.name<0):=by
      rw[Bool.eq_iff_iff,decide_eq_true_iff,decide_eq_true_iff,hlt];constructor
      . rintro(h|⟨_,h|⟨_,h⟩⟩)
        . omega
        . omega
        . exact h
      . exact λh=> .inr ⟨e1,.inr ⟨hz.1 e2,h⟩⟩
     rw[this];rfl
set_option maxHeartbeats 1000000 in
theorem sj(w:ay)(n:Bs)(hF:cU w):NQ.Fn cx 63 [.agg (bw w),.str n] (.d (.slice 3 ((aY w n).map bd))) []:=by
 have hsm:=nV hF ⟨n,1⟩;have hW:aY w n=gY (cN w ⟨n,1⟩):=rfl;have fT:=Kz w ⟨n,1⟩ hF;rw[hW];generalize cN w ⟨n,1⟩=T at *
 obtain⟨A,e⟩:=T;obtain⟨kd,sets,ct⟩:=A;dsimp only at fT hsm;have hlen:sets.length<=100000:=hsm.len;have go:e=0->(kd=1\/kd=2)->gY (⟨kd,sets,ct⟩,e)=iR sets:=λh1 h2=>lJ ⟨h1,h2⟩
 have no:¬(e=0/\(kd=1\/kd=2))->gY (⟨kd,sets,ct⟩,e)=[]:=λh=>qU h
 refine cK (fun|4=>[55555]|_=>[]) aP mixed Tryz.func63 (by kernel_rfl) rfl (ai rfl) ?_
 conv=>whnf
 (refine⟨_,_,fT,?_⟩;conv=>whnf)
 apply pM (α:=Unit) (P:=λ_=>gY (⟨kd,sets,ct⟩,e)=iR sets) (canon:=λ_=>⟨[(5,.ptr 5 0)],[(5,.box ((ee ⟨kd,sets,ct⟩).map .d))]⟩)
 case h1 =>
  intro rest;have hend:gY (⟨kd,sets,ct⟩,e)=iR sets->_:=λh=>rest () h
  refine ae (λh1=>?_) (λh1=>?_) <;> (rw[h1];conv=>whnf)
  . have e0:e≠0:=by simpa using h1
    rw[no λh=>e0 h.1];exact af rfl rfl
  . have e0:e=0:=by simpa using h1
    refine ae (λh2=>?_) (λh2=>?_) <;> (rw[h2];conv=>whnf)
    . have k1:kd≠1:=by simpa using h2
      refine ae (λh3=>?_) (λh3=>?_) <;> (rw[h3];conv=>whnf)
      . have k2:kd≠2:=by simpa using h3
        rw[no λh=>h.2.elim k1 k2];exact af rfl rfl
      . have k2:kd=2:=by simpa using h3
        exact eM (st1:=⟨[(5,.ptr 5 0)],[(5,.box ((ee ⟨kd,sets,ct⟩).map .d))]⟩) (ag.keep ⟨ab,trivial⟩ ⟨ab,trivial⟩) (rest () (go e0 (.inr k2)))
    . have k1:kd=1:=by simpa using h2
      exact eM (st1:=⟨[(5,.ptr 5 0)],[(5,.box ((ee ⟨kd,sets,ct⟩).map .d))]⟩) (ag.keep ⟨ab,trivial⟩ ⟨ab,trivial⟩) (rest () (go e0 (.inl k1)))
 case h2 =>
  rintro _ hA;rw[hA];show kJ _ _ _ _ _ _ _
  conv=>whnf
  refine⟨Nat,λk=>⟨[(5,.ptr 5 0),(7,.d (.slice 3 ((iR (sets.take k)).map bd))),(8,.d (.int .i64 k))],[(5,.box ((ee ⟨kd,sets,ct⟩).map .d))]⟩,λk=>k<=sets.length,λk=>sets.length-k,
   ⟨0,Nat.zero_le _,(ag.pX 7 3 rfl).trans (ag.keep ⟨ab,ab,ab,trivial⟩ ⟨ab,trivial⟩)⟩,λk hk=>?_⟩
  dsimp only at hk ⊢
  conv=>whnf
  refine ae (λh1=>?_) (λh1=>?_) <;> (rw[h1];conv=>whnf)
  . have hlt:k<sets.length:=by simpa using h1
    obtain⟨s,hs⟩:∃s,sets[k]? =some s:=⟨_,ah hlt⟩
    have hl:=gM hs;refine⟨au k,an s,aA hs,?_⟩
    conv=>whnf
    cases h2:(s.set.type==1)with
    |true =>
     rw[h2,if_pos rfl]at hl
     conv=>whnf
     refine⟨au k,an s,aA hs,?_⟩
     conv=>whnf
     exact⟨k+1,hlt,by(show sets.length-(k+1)<sets.length-k;omega),ag.keep ⟨ab,⟨by rw[hl];rfl,rfl⟩,⟨ak (by omega),rfl⟩,trivial⟩ ⟨ab,trivial⟩⟩
    |false =>
     rw[h2,if_neg (by simp)]at hl
     conv=>whnf
     exact⟨k+1,hlt,by(show sets.length-(k+1)<sets.length-k;omega),ag.keep ⟨ab,⟨by rw[hl];rfl,rfl⟩,⟨ak (by omega),rfl⟩,trivial⟩ ⟨ab,trivial⟩⟩
  . obtain rfl:k=sets.length:=by simp at h1;omega
    rw[List.take_length];exact af rfl rfl
end Go.Proofs.YtjapjahfllomkaaGreatDoor
namespace NP
open NQ Go
theorem LW{L:List Fnd}{f:Fnd}(hr:gH L)(hf:f∈L):iO f L=L:=(ot f hr).ext hr λx=>by
 rw[ny];exact⟨λh=>h.elim (λe=>e ▸ hf) id,.inr⟩
theorem yu{L:List Fnd}{f:Fnd}{k:Nat}(hr:gH L)(hf:f ∉ L)(h1:∀x∈L.drop k,eB f x<0)(h2:∀x∈L.take k,¬eB f x<0):iO f L=L.take k++f::L.drop k:=by
 have hLk:L=L.take k++L.drop k:=(List.take_append_drop k L).symm;have hr' :=hr;unfold gH at hr';rw[hLk,List.pairwise_append]at hr';refine(ot f hr).ext ?_ λx=>?_
 . unfold gH;refine List.pairwise_append.2 ⟨hr'.1,List.pairwise_cons.2 ⟨h1,hr'.2.1⟩,λx hx y hy=>?_⟩;rcases List.mem_cons.1 hy with rfl|hy
   . rcases sw (h2 x hx)with h|h
     . exact h
     . exact absurd (h ▸ List.mem_of_mem_take hx) hf
   . exact hr'.2.2 x hx y hy
 . rw[ny,List.mem_append,List.mem_cons]
   conv=>lhs;rw[hLk,List.mem_append]
   constructor
   . rintro(h|h|h)
     . exact .inr (.inl h)
     . exact .inl h
     . exact .inr (.inr h)
   . rintro(h|h|h)
     . exact .inr (.inl h)
     . exact .inl h
     . exact .inr (.inr h)
theorem Ir{L:List Fnd}{f x:Fnd}{m:Nat}(hr:gH L)(hx:L[m]? =some x)(h:¬eB f x<0):∀z∈L.take (m+1),¬eB f z<0:=λz hz hc=>by
 rw[aV hx,List.mem_append,List.mem_singleton]at hz;rcases hz with hz|rfl
 . have hlt:=(av.1 hx).1;have hLk:L=L.take m++L.drop m:=(List.take_append_drop m L).symm;have hr' :=hr;unfold gH at hr';rw[hLk,List.pairwise_append]at hr';have hxd:x∈L.drop m:=by rw[drop_cons hx];exact List.mem_cons_self ..
   exact h (kX hc (hr'.2.2 z hz x hxd))
 . exact h hc
def gy(L:List Fnd)(k:Nat)(y:Fnd):List Fnd:=L.take k++y::L.drop k
theorem Ob{L:List Fnd}{k:Nat}(hk:k<=L.length)(y:Fnd):(gy L k y).length=L.length+1:=by
 unfold gy;rw[List.length_append,List.length_cons,List.length_take,List.length_drop];omega
theorem Oa{L:List Fnd}{k:Nat}{x:Fnd}(hx:L[k]? =some x)(y:Fnd):(gy L (k+1) y)[k]? =some x:=by
 have:=(av.1 hx).1;unfold gy;rw[cy (by rw[List.length_take];omega),List.getElem?_take_of_lt (by omega)];exact hx
theorem Py{L:List Fnd}{k:Nat}(hk:k<=L.length)(y:Fnd):(gy L k y)[k]? =some y:=by
 unfold gy;have:(L.take k).length=k:=by rw[List.length_take];omega
 rw[b9 (by omega),this,Nat.sub_self];rfl
theorem Oc{L:List Fnd}{k:Nat}(hk:k<=L.length)(y z:Fnd):(gy L k y).set k z=gy L k z:=by
 unfold gy;have:(L.take k).length=k:=by rw[List.length_take];omega
 rw[List.set_append_right _ _ (by omega),this,Nat.sub_self];rfl
theorem Jz{L:List Fnd}{k:Nat}{x:Fnd}(hx:L[k]? =some x):gy L (k+1) x=gy L k x:=by
 have hlt:=(av.1 hx).1;unfold gy;rw[aV hx,List.append_assoc,drop_cons hx];rfl
theorem N9(L:List Fnd)(f:Fnd):L++[f]=gy L L.length f:=by
 unfold gy;rw[List.take_length,List.drop_length]
end NP
namespace Go.Proofs.YtjapjahfllomkaaGreatDoor
open NQ Go NP Go.RowKit
set_option maxHeartbeats 1000000 in
theorem ID(l:List Fnd)(f:Fnd)(fl:Bool)(hr:gH l)(hok:∀x∈l,qm x)(hf:qm f)(hl:l.length<=50000) :
 FnR cx 117 true 47 3 (l.map bD) fl [.agg (bD f)] ((iO f l).map bD):=by
 have hw:∀m:Nat,m<=100000->IntKind.i64.wrap (((m+1:Nat):Int)-1)=((m:Nat):Int):=λm hm=>by rw[wrap_i64 (by omega) (by omega)];omega
 refine sJ (λ_=>[]) aP mixed Tryz.func117 (by kernel_rfl) rfl (ai rfl) ?_;conv=>whnf
 refine⟨Nat,λk=>⟨[(0,.own 100000),(3,.ptr 3 0),(5,.d (.int .i64 k))],[(100000,.row 47 3 (l.map bD) fl),(3,.box ((bD f).map .d))]⟩,λk=>k<=l.length/\f ∉ l.take k,λk=>l.length-k,
  ⟨0,⟨Nat.zero_le _,by simp⟩,ag.keep ⟨ab,ab,ab,trivial⟩ ⟨ab,ab,trivial⟩⟩,λk ⟨hk,hno⟩=>?_⟩
 dsimp only at hk hno ⊢
 conv=>whnf
 refine ae (λh1=>?_) (λh1=>?_) <;> (rw[h1];conv=>whnf)
 . have hlt:k<l.length:=by simpa using h1
   obtain⟨x,hx⟩:∃x,l[k]? =some x:=⟨_,ah hlt⟩
   (refine⟨(by kernel_rfl:bc _ _=true),?_⟩;conv=>whnf)
   refine⟨au k,by(show k<(l.map bD).length);rw[aj];exact hlt,?_⟩
   conv=>whnf
   refine⟨bD x,aA hx,?_⟩
   conv=>whnf
   refine ae (λh2=>?_) (λh2=>?_) <;> (rw[h2];conv=>whnf)
   . have e:x=f:=by
      simp at h2;cases x;cases f;simp at h2 ⊢;exact⟨h2.1,h2.2.1,h2.2.2⟩
     refine⟨rfl,fl,?_⟩;rw[LW hr (e ▸ ar hx)];rfl
   . have e:x≠f:=λe=>by subst e;simp at h2
     refine⟨k+1,⟨hlt,?_⟩,by(show l.length-(k+1)<l.length-k;omega),ag.keep ⟨ab,ab,⟨ak (by omega),rfl⟩,trivial⟩ ⟨ab,ab,trivial⟩⟩;rw[aV hx,List.mem_append,List.mem_singleton];rintro(h|h)
     . exact hno h
     . exact e h.symm
 . obtain rfl:k=l.length:=by simp at h1;omega
   rw[List.take_length]at hno;refine⟨by(show(l.map bD).length+1<=_);rw[aj];omega,by(show((l.map bD).length+1)*40<=_);rw[aj];omega,?_⟩
   conv=>whnf
   refine⟨Nat×Fnd,λx=>⟨[(0,.own 100000),(3,.ptr 3 0),(6,.d (.int .i64 x.1))],[(100000,.row 47 3 ((gy l x.1 x.2).map bD) false),(3,.box ((bD f).map .d))]⟩,λx=>x.1<=l.length/\ ∀y∈l.drop x.1,eB f y<0,λx=>x.1,
    ⟨(l.length,f),⟨Nat.le_refl _,λy hy=>by rw[List.drop_length]at hy;cases hy⟩,ag.keep ⟨ab,ab,⟨?_,rfl⟩,trivial⟩ ⟨⟨?_,rfl⟩,ab,trivial⟩⟩,λ⟨k,y⟩ ⟨hk,hab⟩=>?_⟩
   . show AV.d (D.int .i64 ((l.map bD).length:Int))=_
     rw[aj]
   . show some (Blk.row _ _ (l.map bD++[bD f]) false)=some (Blk.row _ _ ((gy l l.length f).map bD) false)
     rw[<- N9,List.map_append];rfl
   dsimp only at hk hab ⊢;have hgl:=Ob hk y;have hset:∀x:Fnd,((gy l k y).map bD).set k (bD x)=(gy l k x).map bD:=λx=>by rw[<- List.map_set,Oc hk]
   have hlen:((gy l k y).map bD).length=l.length+1:=by rw[aj,hgl]
   have hat:((gy l k y).map bD)[k]? =some (bD y):=aA (Py hk y)
   conv=>whnf
   (refine⟨(by kernel_rfl:bc _ _=true),?_⟩;conv=>whnf)
   refine ae (λh1=>?_) (λh1=>?_) <;> (rw[h1];conv=>whnf)
   . obtain⟨m,rfl⟩:∃m,k=m+1:=⟨k-1,by have:=of_decide_eq_true h1;omega⟩
     obtain⟨x,hx⟩:∃x,l[m]? =some x:=⟨_,ah (by omega)⟩
     have hwm:=hw m (by omega);have hgx:((gy l (m+1) y).map bD)[m]? =some (bD x):=aA (Oa hx y);have hox:=hok x (ar hx);refine⟨by rw[hwm];exact au m,by rw[hwm,hlen,Int.toNat_natCast];omega,?_⟩
     conv=>whnf
     refine⟨bD x,by rw[hwm,Int.toNat_natCast];exact hgx,?_⟩
     conv=>whnf
     (refine⟨_,_,Ep f x hf hox,?_⟩;conv=>whnf)
     refine ae (λh2=>?_) (λh2=>?_) <;> (rw[h2];conv=>whnf)
     . refine⟨by rw[hwm];exact au m,by rw[hwm,hlen,Int.toNat_natCast];omega,?_⟩
       conv=>whnf
       refine⟨bD x,by rw[hwm,Int.toNat_natCast];exact hgx,?_⟩
       conv=>whnf
       refine⟨au (m+1),by rw[hlen,Int.toNat_natCast];omega,?_⟩
       conv=>whnf
       refine⟨bD y,hat,?_⟩
       conv=>whnf
       refine⟨(m,x),⟨by(show m<=l.length;omega),λz hz=>?_⟩,by(show m<m+1;omega),ag.keep ⟨ab,ab,⟨?_,rfl⟩,trivial⟩ ⟨⟨?_,rfl⟩,ab,trivial⟩⟩
       . dsimp only at hz;rw[drop_cons hx]at hz;rcases List.mem_cons.1 hz with rfl|hz
         . exact of_decide_eq_true h2
         . exact hab z hz
       . show AV.d (D.int .i64 (IntKind.i64.wrap (((m+1:Nat):Int)-1)))=_
         rw[hwm]
       . show some (Blk.row _ _ (((gy l (m+1) y).map bD).set (m+1) (bD x)) false)=some (Blk.row _ _ ((gy l m x).map bD) false)
         rw[hset,Jz hx]
     . refine⟨au (m+1),by rw[hlen,Int.toNat_natCast];omega,?_⟩
       conv=>whnf
       refine⟨bD y,hat,?_⟩
       conv=>whnf
       refine⟨rfl,false,?_⟩;show some (Blk.row _ _ (((gy l (m+1) y).map bD).set (m+1) (bD f)) false)=some (Blk.row _ _ ((iO f l).map bD) false)
       rw[hset,yu hr hno hab (Ir hr hx (of_decide_eq_false h2))];rfl
   . obtain rfl:k=0:=by have:=of_decide_eq_false h1;omega
     refine⟨au 0,by rw[hlen,Int.toNat_natCast];omega,?_⟩
     conv=>whnf
     refine⟨bD y,hat,?_⟩
     conv=>whnf
     refine⟨rfl,false,?_⟩;show some (Blk.row _ _ (((gy l 0 y).map bD).set 0 (bD f)) false)=some (Blk.row _ _ ((iO f l).map bD) false)
     rw[hset,yu hr hno hab (λz hz=>by simp at hz)];rfl
end Go.Proofs.YtjapjahfllomkaaGreatDoor
namespace NP
open NQ Go
def eZ(l fs:List Fnd):List Fnd:=fs.foldl (λo f=>iO f o) l
theorem LX(l:List Fnd)(f:Fnd):eZ l [f]=iO f l:=rfl
theorem sM(l a b:List Fnd):eZ l (a++b)=eZ (eZ l a) b:=by unfold eZ;rw[List.foldl_append]
theorem CW(f:Fnd):∀l,(iO f l).length<=l.length+1
 |[]=>by simp[iO]
 |g::t=>by
  unfold iO;split
  . omega
  . split
    . simp
    . have:=CW f t;simp only[List.length_cons];omega
def oM(f:Fnd):Prop:=ao f.zone=true/\ao f.name=true
structure lQ(n:Nat)(l:List Fnd):Prop where
 rise:gH l
 ok:∀x∈l,oM x
 len:l.length<=n
theorem lQ.ins{n:Nat}{l:List Fnd}(h:lQ n l){f:Fnd}(hf:oM f):lQ (n+1) (iO f l) :=
 ⟨ot f h.rise,λx hx=>by
  rcases (ny f x l).1 hx with rfl|hx
  . exact hf
  . exact h.ok x hx,by have:=CW f l;have:=h.len;omega⟩
theorem lQ.eZ{n:Nat}:∀{fs l:List Fnd},lQ n l->(∀f∈fs,oM f)->lQ (n+fs.length) (NP.eZ l fs)
 |[],l,h,_=>h
 |f::t,l,h,hf=>by
  have:=(h.ins (hf f (List.mem_cons_self ..))).eZ (fs:=t) λx hx=>hf x (aK _ hx)
  have e:n+(f::t).length=n+1+t.length:=by rw[List.length_cons];omega
  rw[e];exact this
theorem lQ.le{n m:Nat}{l:List Fnd}(h:lQ n l)(hm:n<=m):lQ m l:=⟨h.rise,h.ok,by have:=h.len;omega⟩
def dP(w:ay)(z:az)(D:List Datum)(k:Nat):List Fnd:=l9 w z++(D.take k).flatMap λd=>nA w z.apex d.text
def iG(w:ay)(a n:Bs)(j:Nat):List Fnd:=(if (aY w n).length=0 then[⟨3,a,n⟩]else[])++(((aY w n).take j).filter λd=> !bH w a d.n).map λ_=>⟨1,a,n⟩
def ju(w:ay)(z:az)(i:Nat):List Fnd:=((z.sets.take i).filter (eT z)).flatMap (oR w z.apex)
theorem Hu{w:ay}{z:az}{D:List Datum}{k:Nat}{d:Datum}(h:D[k]? =some d):dP w z D (k+1)=dP w z D k++nA w z.apex d.text:=by
 unfold dP;rw[aV h,List.flatMap_append,List.append_assoc];simp
theorem Hs{w:ay}{a n:Bs}{j:Nat}{d:Datum}(h:(aY w n)[j]? =some d):iG w a n (j+1)=iG w a n j++(if bH w a d.n=true then[]else[⟨1,a,n⟩]):=by
 unfold iG;rw[aV h,List.filter_append,List.map_append,List.append_assoc]
 congr 1
 rw[List.append_cancel_left_eq];cases hb:bH w a d.n with
 |true=>rw[List.filter_cons_of_neg (by simp[hb]),if_pos rfl];rfl
 |false=>rw[List.filter_cons_of_pos (by simp[hb]),if_neg (by simp)];rfl
theorem AR(w:ay)(a n:Bs):iG w a n (aY w n).length=nA w a n:=by unfold iG nA;rw[List.take_length]
theorem Ht{w:ay}{z:az}{i:Nat}{s:Signed}(h:z.sets[i]? =some s):ju w z (i+1)=ju w z i++(if eT z s=true then oR w z.apex s else[]):=by
 unfold ju;rw[aV h,List.filter_append,List.flatMap_append]
 congr 1
 by_cases hb:eT z s=true
 . rw[List.filter_cons_of_pos hb,if_pos hb];simp
 . rw[List.filter_cons_of_neg hb,if_neg hb];simp
theorem My(w:ay)(hF:cU w)(hv:aU w=true)(a n:Bs):(nA w a n).length<=9:=by
 unfold nA;rw[List.length_append,aj];have h1:=qp hF hv n;have h2:=List.length_filter_le (λd:Datum=> !bH w a d.n) (aY w n);split <;> simp <;> omega
theorem J3(w:ay)(hF:cU w)(hv:aU w=true)(a n:Bs)(j:Nat):(iG w a n j).length<=9:=by
 unfold iG;rw[List.length_append,aj];have h1:=qp hF hv n;have h2:=List.length_filter_le (λd:Datum=> !bH w a d.n) ((aY w n).take j);rw[List.length_take]at h2;split <;> simp <;> omega
theorem Dp{w:ay}{a n:Bs}{j:Nat}(ha:ao a=true)(hn:ao n=true):∀f∈iG w a n j,oM f:=λf hf=>by
 unfold iG at hf;rcases List.mem_append.1 hf with hf|hf
 . split at hf
   . rw[List.mem_singleton]at hf;subst hf;exact⟨ha,hn⟩
   . cases hf
 . obtain⟨d,_,rfl⟩:=List.mem_map.1 hf;exact⟨ha,hn⟩
theorem Mm{w:ay}{z:az}{D:List Datum}{k:Nat}(ha:ao z.apex=true)(hD:∀d∈D,ao d.text=true):∀f∈dP w z D k,oM f:=λf hf=>by
 unfold dP at hf;rcases List.mem_append.1 hf with hf|hf
 . unfold l9 at hf;split at hf
   . cases hf
   . rw[List.mem_singleton]at hf;subst hf;exact⟨ha,ha⟩
 . obtain⟨d,hd,h⟩:=List.mem_flatMap.1 hf;rw[<- AR]at h;exact Dp ha (hD d (List.mem_of_mem_take hd)) f h
theorem J5{w:ay}(hF:cU w)(hv:aU w=true){z:az}{D:List Datum}(k:Nat)(hD:D.length<=8):(dP w z D k).length<=73:=by
 unfold dP;rw[List.length_append];have h1:(l9 w z).length<=1:=by unfold l9;split <;> simp
 have h2:=jT (f:=λd:Datum=>nA w z.apex d.text) (c:=9) (l:=D.take k) λd _=>My w hF hv _ _
 rw[List.length_take]at h2;omega
theorem Ml{w:ay}{z:az}{i:Nat}(ho:Ordered z):∀f∈ju w z i,oM f:=λf hf=>by
 unfold ju at hf;obtain⟨s,hs,h⟩:=List.mem_flatMap.1 hf;have hm:=List.mem_of_mem_take (List.mem_filter.1 hs).1;unfold oR at h;split at h
 . cases h
 . rw[List.mem_singleton]at h;subst h;exact⟨ho.apex,ho.name s hm⟩
theorem J4{w:ay}{z:az}{i:Nat}(hz:z.sets.length<=100):(ju w z i).length<=100:=by
 unfold ju;have h2:=jT (f:=oR w z.apex) (c:=1) (l:=(z.sets.take i).filter (eT z)) λd _=>by unfold oR;split <;> simp
 have h3:=List.length_filter_le (eT z) (z.sets.take i);rw[List.length_take]at h3;omega
theorem H5(w:ay)(z:az):qe w z=dP w z ((bY w.zones z.apex).getD []) ((bY w.zones z.apex).getD []).length++ju w z z.sets.length:=by
 unfold qe dP ju;rw[List.take_length,List.take_length]
end NP
namespace Go.Proofs.YtjapjahfllomkaaGreatDoor
open NQ Go NP Go.RowKit
noncomputable def cxK:Cx:={cx with chg:=λg=>match Nat.beq g 117,Nat.beq g 60 with|true,_=>1|_,true=>6|_,_=>cx.chg g}
theorem tyK:bq cxK:=aP
theorem Dj:cxK.P.follows .mixedOrders=true:=mixed
def hK(l:List Fnd)(fl:Bool):List (Nat×Blk):=[(300,.row 47 3 (l.map bD) fl)]
def Qq:Nat->List Nat
 |4=>[55555]
 |6=>[55555]
 |13=>[55555]
 |_=>[]
@[reducible] def Qu (w:ay) (z:az) (D O:List Datum) (ok:Bool) (l:List Fnd) (fl:Bool):St:=⟨[(1,.d (.str z.apex)),(2,.own 300),(3,.ptr 3 0),(7,.ptr 7 0),(8,.d (.slice 3 (D.map bd))),(9,.d (.bool ok)),(10,.d (.slice 3 (O.map bd)))],[(300,.row 47 3 (l.map bD) fl),(3,.box ((bw w).map .d)),(7,.box ((aM z).map .d))]⟩
@[reducible] def Ik (w:ay) (z:az) (D:List Datum) (l:List Fnd) (fl:Bool):St:=⟨[(1,.d (.str z.apex)),(2,.own 300),(3,.ptr 3 0),(7,.ptr 7 0),(8,.d (.slice 3 (D.map bd)))],[(300,.row 47 3 (l.map bD) fl),(3,.box ((bw w).map .d)),(7,.box ((aM z).map .d))]⟩
@[reducible] def MQ (w:ay) (z:az) (D:List Datum) (k:Nat) (n:Bs) (A:List Datum) (l:List Fnd) (fl:Bool):St:=⟨[(1,.d (.str z.apex)),(2,.own 300),(3,.ptr 3 0),(7,.ptr 7 0),(8,.d (.slice 3 (D.map bd))),(11,.d (.int .i64 k)),(12,.d (.str n)),(13,.d (.slice 3 (A.map bd)))],[(300,.row 47 3 (l.map bD) fl),(3,.box ((bw w).map .d)),(7,.box ((aM z).map .d))]⟩
set_option maxHeartbeats 4000000 in
theorem IG(w:ay)(x:Nat×aq)(a:Bs)(hF:cU w)(hv:aU w=true)(hx:ba w.zones a=some x)(l:List Fnd)(hl:lQ 20000 l) :
 FnH cxK 60 [.agg ((bw w).map .d),.d (.str a),.own 300] (hK l false) (.own 300) (hK (eZ l (qe w x.2.zone)) false):=by
 have hz:∀p∈w.zones,aW p.zone=true:=λp hp=>(bS hv p hp).1
 have hzl:=hF.zones;obtain⟨c1,rfl,_⟩:=dB hx;have hxz:=sA w.zones _ x hx;have hxv:=hz x.2 c1;have V:=dw.1 hxv;have ha:=V.ord.apex;have hfz:=cS (hF.few x.2 c1);have fC:=pK w.zones x.2.zone.apex hz (by omega);rw[hx]at fC;have fD:=yg w x.2.zone.apex hF hv ha (jS c1);have fA:=vu x.2.zone ⟨x.2.zone.apex,2⟩ (by omega);have hat:=Fy hxv ⟨x.2.zone.apex,2⟩;have hown:∃(k:Nat) (s:Signed),atI x.2.zone.sets ⟨x.2.zone.apex,2⟩=(k:Int)/\x.2.zone.sets[k]? =some s/\kD x.2.zone=s.set.data:=by
  have hs:=V.serv;rw[<- sG]at hs;unfold kD;cases hf:x.2.zone.sets.find? (is ⟨x.2.zone.apex,2⟩)with
  |none=>rw[hf]at hs;cases hs
  |some s =>
   rw[hf]at hat;obtain⟨k,h1,h2,_⟩:=hat;exact⟨k,s,h1,h2,rfl⟩
 obtain⟨ko,so,hko,hso,hod⟩:=hown;have hB:l9 w x.2.zone=if bY w.zones x.2.zone.apex=some (kD x.2.zone)then[]else[⟨4,x.2.zone.apex,x.2.zone.apex⟩]:=rfl
 have hDs:(((bY w.zones x.2.zone.apex).getD []).length<=8)/\ ∀d∈(bY w.zones x.2.zone.apex).getD [],ao d.text=true:=by
  cases hd:bY w.zones x.2.zone.apex with
  |none=>exact⟨Nat.zero_le _,λd hd=>by cases hd⟩
  |some q=>obtain⟨h1,_,h3⟩:=nO hv hd;exact⟨h1,h3⟩
 have hob:(decide ((bY w.zones x.2.zone.apex).isSome=true/\(bY w.zones x.2.zone.apex).getD []=kD x.2.zone))=decide (bY w.zones x.2.zone.apex=some (kD x.2.zone)):=by
  cases bY w.zones x.2.zone.apex <;> simp
 rw[H5,sM];have hS0:dP w x.2.zone ((bY w.zones x.2.zone.apex).getD []) 0=l9 w x.2.zone:=by unfold dP;simp
 generalize hDe:(bY w.zones x.2.zone.apex).getD []=De at *
 generalize hok:(bY w.zones x.2.zone.apex).isSome=ok at *
 refine kZ Qq tyK Dj Tryz.func60 (by kernel_rfl) rfl (ai rfl) (ai rfl) ?_
 conv=>whnf
 (refine⟨(by kernel_rfl:bc _ _=true),?_⟩;conv=>whnf)
 (refine⟨_,_,fC,?_⟩;conv=>whnf)
 refine⟨au x.1,bn x.2,aA hxz,?_⟩
 conv=>whnf
 (refine⟨_,_,fD,?_⟩;conv=>whnf)
 (refine⟨(by kernel_rfl:bc _ _=true),?_⟩;conv=>whnf)
 (refine⟨_,_,fA,?_⟩;conv=>whnf)
 refine⟨by omega,an so,by rw[hko,Int.toNat_natCast];exact aA hso,?_⟩
 conv=>whnf
 refine⟨Qu w x.2.zone De (kD x.2.zone) ok l false,ag.keep ⟨ab,ab,ab,ab,ab,ab,⟨by rw[hod];rfl,rfl⟩,trivial⟩ ⟨ab,ab,ab,trivial⟩,?_⟩
 conv=>whnf
 have hgood:∀{fs:List Fnd},(∀f∈fs,oM f)->fs.length<=300->lQ 20300 (eZ l fs):=λh1 h2=>(hl.eZ h1).le (by omega)
 have hput:∀{fs:List Fnd} (f:Fnd) (fl:Bool),(∀f∈fs,oM f)->fs.length<=300->oM f->FnR cx 117 true 47 3 ((eZ l fs).map bD) fl [.agg (bD f)] ((eZ l (fs++[f])).map bD):=λ{fs} f fl h1 h2 h3=>by
  have g:=hgood h1 h2;rw[sM,LX];exact ID (eZ l fs) f fl g.rise g.ok h3 (by have:=g.len;omega)
 have hSok:∀k,∀f∈dP w x.2.zone De k,oM f:=λk=>Mm ha hDs.2
 have hSlen:∀k,(dP w x.2.zone De k).length<=73:=λk=>J5 hF hv k hDs.1
 apply pM (α:=Bool) (P:=λfl' =>fl' =false) (canon:=λfl' =>Ik w x.2.zone De (eZ l (dP w x.2.zone De 0)) fl')
 case h1 =>
  intro rest;have yes:l9 w x.2.zone=[⟨4,x.2.zone.apex,x.2.zone.apex⟩]->eZ l (dP w x.2.zone De 0)=eZ l ([]++[⟨4,x.2.zone.apex,x.2.zone.apex⟩]):=λe=>by rw[hS0,e];rfl
  have fw:=hput (fs:=[]) ⟨4,x.2.zone.apex,x.2.zone.apex⟩ false (λf hf=>by cases hf) (by simp) ⟨ha,ha⟩;cases ok with
  |false =>
   have e:l9 w x.2.zone=[⟨4,x.2.zone.apex,x.2.zone.apex⟩]:=by
    rw[hB,if_neg];intro e;rw[e]at hok;cases hok
   conv=>whnf
   refine⟨_,fw,?_⟩
   conv=>whnf
   exact eM (st1:=Ik w x.2.zone De (eZ l (dP w x.2.zone De 0)) false) (ag.keep ⟨ab,ab,ab,ab,ab,trivial⟩ ⟨⟨by rw[yes e];rfl,rfl⟩,ab,ab,trivial⟩) (rest false rfl)
  |true =>
   conv=>whnf
   (refine⟨_,_,wF De (kD x.2.zone) (by omega),?_⟩;conv=>whnf)
   cases hde:decide (De=kD x.2.zone)with
   |true =>
    have e:l9 w x.2.zone=[]:=by
     rw[hB,if_pos];have h1:=of_decide_eq_true hde;obtain⟨q,hq⟩:=Option.isSome_iff_exists.1 hok;rw[hq]at hDe ⊢;rw[<- h1, <- hDe];rfl
    conv=>whnf
    exact eM (st1:=Ik w x.2.zone De (eZ l (dP w x.2.zone De 0)) false) (ag.keep ⟨ab,ab,ab,ab,ab,trivial⟩ ⟨⟨by rw[hS0,e];rfl,rfl⟩,ab,ab,trivial⟩) (rest false rfl)
   |false =>
    have e:l9 w x.2.zone=[⟨4,x.2.zone.apex,x.2.zone.apex⟩]:=by
     rw[hB,if_neg];intro e;rw[e]at hDe;exact of_decide_eq_false hde hDe.symm
    conv=>whnf
    refine⟨_,fw,?_⟩
    conv=>whnf
    exact eM (st1:=Ik w x.2.zone De (eZ l (dP w x.2.zone De 0)) false) (ag.keep ⟨ab,ab,ab,ab,ab,trivial⟩ ⟨⟨by rw[yes e];rfl,rfl⟩,ab,ab,trivial⟩) (rest false rfl)
 case h2 =>
  rintro _ rfl;show kJ _ _ _ _ _ _ _
  conv=>whnf
  refine⟨Nat×Bool,λy=>⟨[(1,.d (.str x.2.zone.apex)),(2,.own 300),(3,.ptr 3 0),(7,.ptr 7 0),(8,.d (.slice 3 (De.map bd))),(11,.d (.int .i64 y.1))],[(300,.row 47 3 ((eZ l (dP w x.2.zone De y.1)).map bD) y.2),(3,.box ((bw w).map .d)),(7,.box ((aM x.2.zone).map .d))]⟩,λy=>y.1<=De.length/\y.2=false,λy=>De.length-y.1,
   ⟨(0,false),⟨Nat.zero_le _,rfl⟩,ag.keep ⟨ab,ab,ab,ab,ab,ab,trivial⟩ ⟨ab,ab,ab,trivial⟩⟩,λ⟨k,fl2⟩ ⟨hk,hfl2⟩=>?_⟩
  dsimp only at hk hfl2 ⊢;subst hfl2
  conv=>whnf
  refine ae (λh1=>?_) (λh1=>?_) <;> (rw[h1];conv=>whnf)
  . have hlt:k<De.length:=by simpa using h1
    obtain⟨d,hd⟩:∃d,De[k]? =some d:=⟨_,ah hlt⟩
    have hdn:=hDs.2 d (ar hd);have hAok:∀j,∀f∈dP w x.2.zone De k++iG w x.2.zone.apex d.text j,oM f:=λj f hf=>by
     rcases List.mem_append.1 hf with hf|hf
     . exact hSok k f hf
     . exact Dp ha hdn f hf
    have hAlen:∀j,(dP w x.2.zone De k++iG w x.2.zone.apex d.text j).length<=82:=λj=>by
     rw[List.length_append];have:=hSlen k;have:=J3 w hF hv x.2.zone.apex d.text j;omega
    have hA0:iG w x.2.zone.apex d.text 0=if (aY w d.text).length=0 then[⟨3,x.2.zone.apex,d.text⟩]else[]:=by unfold iG;simp
    have hAl:=qp hF hv d.text;refine⟨au k,bd d,aA hd,?_⟩
    conv=>whnf
    (refine⟨_,_,sj w d.text hF,?_⟩;conv=>whnf)
    apply pM (α:=Bool) (P:=λfl' =>fl' =false) (canon:=λfl' =>MQ w x.2.zone De k d.text (aY w d.text) (eZ l (dP w x.2.zone De k++iG w x.2.zone.apex d.text 0)) fl')
    case h1 =>
     intro rest;refine ae (λh2=>?_) (λh2=>?_) <;> (rw[h2];conv=>whnf)
     . have e0:(aY w d.text).length=0:=by
        have h3:(((aY w d.text).map bd).length:Int)=0:=by simpa using h2
        rw[aj]at h3;omega
       refine⟨_,hput ⟨3,x.2.zone.apex,d.text⟩ false (hSok k) (by have:=hSlen k;omega) ⟨ha,hdn⟩,?_⟩
       conv=>whnf
       exact eM (st1:=MQ w x.2.zone De k d.text (aY w d.text) (eZ l (dP w x.2.zone De k++iG w x.2.zone.apex d.text 0)) false) (ag.keep ⟨ab,ab,ab,ab,ab,ab,ab,ab,trivial⟩ ⟨⟨by rw[hA0,if_pos e0];rfl,rfl⟩,ab,ab,trivial⟩) (rest false rfl)
     . have e0:¬(aY w d.text).length=0:=by
        have h3:¬(((aY w d.text).map bd).length:Int)=0:=by first|exact beq_eq_false_iff_ne.1 h2|exact of_decide_eq_false h2
        rw[aj]at h3;omega
       exact eM (st1:=MQ w x.2.zone De k d.text (aY w d.text) (eZ l (dP w x.2.zone De k++iG w x.2.zone.apex d.text 0)) false) (ag.keep ⟨ab,ab,ab,ab,ab,ab,ab,ab,trivial⟩ ⟨⟨by rw[hA0,if_neg e0,List.append_nil];rfl,rfl⟩,ab,ab,trivial⟩) (rest false rfl)
    case h2 =>
     rintro _ rfl;show kJ _ _ _ _ _ _ _
     conv=>whnf
     refine⟨Nat×Bool,λy=>⟨[(1,.d (.str x.2.zone.apex)),(2,.own 300),(3,.ptr 3 0),(7,.ptr 7 0),(8,.d (.slice 3 (De.map bd))),(11,.d (.int .i64 k)),(12,.d (.str d.text)),(13,.d (.slice 3 ((aY w d.text).map bd))),(14,.d (.int .i64 y.1))],[(300,.row 47 3 ((eZ l (dP w x.2.zone De k++iG w x.2.zone.apex d.text y.1)).map bD) y.2),(3,.box ((bw w).map .d)),(7,.box ((aM x.2.zone).map .d))]⟩,
      λy=>y.1<=(aY w d.text).length/\y.2=false,λy=>(aY w d.text).length-y.1,
      ⟨(0,false),⟨Nat.zero_le _,rfl⟩,ag.keep ⟨ab,ab,ab,ab,ab,ab,ab,ab,ab,trivial⟩ ⟨ab,ab,ab,trivial⟩⟩,λ⟨j,fl4⟩ ⟨hj,hfl4⟩=>?_⟩
     dsimp only at hj hfl4 ⊢;subst hfl4
     conv=>whnf
     refine ae (λh2=>?_) (λh2=>?_) <;> (rw[h2];conv=>whnf)
     . have hjl:j<(aY w d.text).length:=by simpa using h2
       obtain⟨ad,had⟩:∃d',(aY w d.text)[j]? =some d' :=⟨_,ah hjl⟩
       have hsn:=Hs (a:=x.2.zone.apex) had
       (refine⟨(by kernel_rfl:bc _ _=true),?_⟩;conv=>whnf)
       refine⟨au j,bd ad,aA had,?_⟩
       conv=>whnf
       (refine⟨_,_,wI w ad.n x.2.zone.apex hF hv,?_⟩;conv=>whnf)
       cases hsv:bH w x.2.zone.apex ad.n with
       |true =>
        rw[hsv,if_pos rfl,List.append_nil]at hsn
        conv=>whnf
        exact⟨(j+1,false),⟨hjl,rfl⟩,by(show(aY w d.text).length-(j+1)<(aY w d.text).length-j;omega),ag.keep ⟨ab,ab,ab,ab,ab,ab,ab,ab,⟨ak (by omega),rfl⟩,trivial⟩ ⟨⟨by rw[hsn];rfl,rfl⟩,ab,ab,trivial⟩⟩
       |false =>
        rw[hsv,if_neg (by simp)]at hsn
        conv=>whnf
        refine⟨_,hput ⟨1,x.2.zone.apex,d.text⟩ false (hAok j) (by have:=hAlen j;omega) ⟨ha,hdn⟩,?_⟩
        conv=>whnf
        exact⟨(j+1,false),⟨hjl,rfl⟩,by(show(aY w d.text).length-(j+1)<(aY w d.text).length-j;omega),ag.keep ⟨ab,ab,ab,ab,ab,ab,ab,ab,⟨ak (by omega),rfl⟩,trivial⟩ ⟨⟨by rw[hsn, <- List.append_assoc];rfl,rfl⟩,ab,ab,trivial⟩⟩
     . obtain rfl:j=(aY w d.text).length:=by simp at h2;omega
       exact⟨(k+1,false),⟨hlt,rfl⟩,by(show De.length-(k+1)<De.length-k;omega),ag.keep ⟨ab,ab,ab,ab,ab,⟨ak (by omega),rfl⟩,trivial⟩ ⟨⟨by rw[Hu hd, <- AR];rfl,rfl⟩,ab,ab,trivial⟩⟩
  . obtain rfl:k=De.length:=by simp at h1;omega
    have hGok:∀i,∀f∈dP w x.2.zone De De.length++ju w x.2.zone i,oM f:=λi f hf=>by
     rcases List.mem_append.1 hf with hf|hf
     . exact hSok _ f hf
     . exact Ml V.ord f hf
    have hGlen:∀i,(dP w x.2.zone De De.length++ju w x.2.zone i).length<=173:=λi=>by
     rw[List.length_append];have:=hSlen De.length;have:=J4 (w:=w) (z:=x.2.zone) (i:=i) hfz.1;omega
    refine⟨Nat×Bool,λy=>⟨[(1,.d (.str x.2.zone.apex)),(2,.own 300),(3,.ptr 3 0),(7,.ptr 7 0),(15,.d (.slice 5 (x.2.zone.sets.map an))),(16,.d (.int .i64 y.1))],[(300,.row 47 3 ((eZ l (dP w x.2.zone De De.length++ju w x.2.zone y.1)).map bD) y.2),(3,.box ((bw w).map .d)),(7,.box ((aM x.2.zone).map .d))]⟩,λy=>y.1<=x.2.zone.sets.length/\y.2=false,λy=>x.2.zone.sets.length-y.1,
     ⟨(0,false),⟨Nat.zero_le _,rfl⟩,ag.keep ⟨ab,ab,ab,ab,ab,ab,trivial⟩ ⟨⟨by rw[show ju w x.2.zone 0=[]from rfl,List.append_nil];rfl,rfl⟩,ab,ab,trivial⟩⟩,λ⟨i,fl3⟩ ⟨hi,hfl3⟩=>?_⟩
    dsimp only at hi hfl3 ⊢;subst hfl3
    conv=>whnf
    refine ae (λh2=>?_) (λh2=>?_) <;> (rw[h2];conv=>whnf)
    . have hil:i<x.2.zone.sets.length:=by simpa using h2
      obtain⟨s,hs⟩:∃s,x.2.zone.sets[i]? =some s:=⟨_,ah hil⟩
      have hsm:=ar hs;have hsn:=Ht (w:=w) hs;refine⟨au i,an s,aA hs,?_⟩
      conv=>whnf
      (refine⟨(by kernel_rfl:bc _ _=true),?_⟩;conv=>whnf)
      have hgl:eT x.2.zone s=((s.set.type==1)&& !(bo x.2.zone s.set.name==[])):=rfl;have hG:oR w x.2.zone.apex s=if s.set.data=aY w s.set.name then[]else[⟨2,x.2.zone.apex,s.set.name⟩]:=rfl
      have stay:(if eT x.2.zone s=true then oR w x.2.zone.apex s else[])=[]->ju w x.2.zone (i+1)=ju w x.2.zone i:=λe=>by rw[hsn,e,List.append_nil]
      cases t1:(s.set.type==1)with
      |false =>
       have e:=stay (by rw[hgl,t1];rfl)
       conv=>whnf
       exact⟨(i+1,false),⟨hil,rfl⟩,by(show x.2.zone.sets.length-(i+1)<x.2.zone.sets.length-i;omega),ag.keep ⟨ab,ab,ab,ab,ab,⟨ak (by omega),rfl⟩,trivial⟩ ⟨⟨by rw[e];rfl,rfl⟩,ab,ab,trivial⟩⟩
      |true =>
       conv=>whnf
       (refine⟨_,_,Cv x.2.zone s.set.name (by omega) V.ord.name (V.ord.name s hsm),?_⟩;conv=>whnf)
       cases t2:(bo x.2.zone s.set.name==[])with
       |true =>
        have e:=stay (by rw[hgl,t1,t2];rfl)
        conv=>whnf
        exact⟨(i+1,false),⟨hil,rfl⟩,by(show x.2.zone.sets.length-(i+1)<x.2.zone.sets.length-i;omega),ag.keep ⟨ab,ab,ab,ab,ab,⟨ak (by omega),rfl⟩,trivial⟩ ⟨⟨by rw[e];rfl,rfl⟩,ab,ab,trivial⟩⟩
       |false =>
        have hg1:eT x.2.zone s=true:=by rw[hgl,t1,t2];rfl
        conv=>whnf
        (refine⟨_,_,sj w s.set.name hF,?_⟩;conv=>whnf)
        (refine⟨_,_,wF s.set.data (aY w s.set.name) (by have:=(hfz.2 s hsm).1;omega),?_⟩;conv=>whnf)
        cases t3:decide (s.set.data=aY w s.set.name)with
        |true =>
         have e:=stay (by rw[if_pos hg1,hG,if_pos (of_decide_eq_true t3)])
         conv=>whnf
         exact⟨(i+1,false),⟨hil,rfl⟩,by(show x.2.zone.sets.length-(i+1)<x.2.zone.sets.length-i;omega),ag.keep ⟨ab,ab,ab,ab,ab,⟨ak (by omega),rfl⟩,trivial⟩ ⟨⟨by rw[e];rfl,rfl⟩,ab,ab,trivial⟩⟩
        |false =>
         rw[if_pos hg1,hG,if_neg (of_decide_eq_false t3)]at hsn
         conv=>whnf
         refine⟨_,hput ⟨2,x.2.zone.apex,s.set.name⟩ false (hGok i) (by have:=hGlen i;omega) ⟨ha,V.ord.name s hsm⟩,?_⟩
         conv=>whnf
         exact⟨(i+1,false),⟨hil,rfl⟩,by(show x.2.zone.sets.length-(i+1)<x.2.zone.sets.length-i;omega),ag.keep ⟨ab,ab,ab,ab,ab,⟨ak (by omega),rfl⟩,trivial⟩ ⟨⟨by rw[hsn, <- List.append_assoc];rfl,rfl⟩,ab,ab,trivial⟩⟩
    . obtain rfl:i=x.2.zone.sets.length:=by simp at h2;omega
      exact⟨[(6,.own 300)],ag.keep ⟨ab,trivial⟩ ⟨⟨by rw[<- sM];rfl,rfl⟩,trivial⟩,rfl⟩
end Go.Proofs.YtjapjahfllomkaaGreatDoor
namespace NP
open NQ Go
def kv(w:ay):List Fnd×Int:=if aU w=true then(GW w,0)else([],1)
def rE(w:ay)(p:aq):List Fnd:=match ba w.zones p.zone.apex with|some x=>qe w x.2.zone|none=>[]
theorem Mx(w:ay):uY w=w.zones.flatMap (rE w):=rfl
theorem JD{w:ay}(hF:cU w)(hv:aU w=true)(hz:w.zones.length<=100)(k:Nat):lQ 20000 (eZ [] ((w.zones.take k).flatMap (rE w))):=by
 have hs:eZ [] ((w.zones.take k).flatMap (rE w))=lr ((w.zones.take k).flatMap (rE w)):=rfl;rw[hs];have hr:=mS ((w.zones.take k).flatMap (rE w));have hm:∀f∈lr ((w.zones.take k).flatMap (rE w)),f∈findAll w:=λf hf=>by
  rw[ov,List.mem_flatMap]at hf;obtain⟨p,hp,h⟩:=hf;exact(yM hF hv f).1 (List.mem_flatMap.2 ⟨p,List.mem_of_mem_take hp,h⟩)
 refine⟨hr,λf hf=>Ju hF hv (hm f hf),?_⟩;have h1:=oA hr.nodup hm;have h2:=rl hF hv hz;omega
end NP
namespace Go.Proofs.YtjapjahfllomkaaGreatDoor
open NQ Go NP Go.RowKit
theorem lM(w:ay)(hF:cU w)(hz:w.zones.length<=100):NQ.Fn cx 13 [.agg (bw w)] (.tuple [.d (.slice 3 ((kv w).1.map bD)),.d (.int .i64 (kv w).2)]) []:=by
 unfold kv;cases hv:aU w with
 |true=>rw[if_pos rfl];exact CK w hF hv hz
 |false =>
  have fV:=qP w hF;rw[hv]at fV;rw[if_neg (by simp)];refine aB aP mixed Tryz.func13 (by kernel_rfl) rfl (ai rfl) ?_;conv=>whnf
  (refine⟨_,_,fV,?_⟩;conv=>whnf)
  exact af rfl rfl
set_option maxHeartbeats 1000000 in
theorem DL(w:ay)(hF:cU w)(hz:w.zones.length<=100):NQ.Fn cx 14 [.agg (bw w)] (.tuple [.d (.slice 3 ((kv w).1.map bD)),.d (.int .i64 (kv w).2)]) []:=by
 show NQ.Fn cxK _ _ _ _
 have fV:=y5 w hF;unfold kv;cases hv:aU w with
 |false =>
  rw[hv]at fV;rw[if_neg (by simp)];refine cK (λ_=>[]) tyK Dj Tryz.func14 (by kernel_rfl) rfl (ai rfl) ?_
  conv=>whnf
  (refine⟨_,_,fV,?_⟩;conv=>whnf)
  exact af rfl rfl
 |true =>
  rw[hv]at fV;rw[if_pos rfl];have hfin:eZ [] (w.zones.flatMap (rE w))=GW w:=by rw[<- Mx];exact DI hF hv
  refine cK (λ_=>[]) tyK Dj Tryz.func14 (by kernel_rfl) rfl (ai rfl) ?_
  conv=>whnf
  (refine⟨_,_,fV,?_⟩;conv=>whnf)
  refine⟨Nat,λk=>⟨[(1,.ptr 1 0),(4,.own 300),(5,.d (.int .i64 k))],[(1,.box ((bw w).map .d)),(300,.row 47 3 ((eZ [] ((w.zones.take k).flatMap (rE w))).map bD))]⟩,λk=>k<=w.zones.length,λk=>w.zones.length-k,
   ⟨0,Nat.zero_le _,(ag.jX 4 300 3 47 3 rfl rfl (by decide)).trans (ag.keep ⟨ab,ab,ab,trivial⟩ ⟨ab,ab,trivial⟩)⟩,λk hk=>?_⟩
  dsimp only at hk ⊢
  conv=>whnf
  refine ae (λh1=>?_) (λh1=>?_) <;> (rw[h1];conv=>whnf)
  . have hlt:k<w.zones.length:=by simpa using h1
    obtain⟨p,hp⟩:∃p,w.zones[k]? =some p:=⟨_,ah hlt⟩
    have hpm:=ar hp;obtain⟨x,hx⟩:=Option.isSome_iff_exists.1 (jS hpm);have hP:rE w p=qe w x.2.zone:=by unfold rE;rw[hx]
    (refine⟨(by kernel_rfl:bc _ _=true),?_⟩;conv=>whnf)
    refine⟨au k,bn p,aA hp,?_⟩
    conv=>whnf
    refine⟨[1],_,_,IG w x p.zone.apex hF hv hx _ (JD hF hv hz k),⟨⟨by kernel_rfl,by kernel_rfl⟩,by kernel_rfl,by kernel_rfl,by kernel_rfl⟩,?_⟩
    conv=>whnf
    refine⟨k+1,hlt,by(show w.zones.length-(k+1)<w.zones.length-k;omega),ag.keep ⟨ab,ab,⟨ak (by omega),rfl⟩,trivial⟩ ⟨ab,⟨?_,rfl⟩,trivial⟩⟩;rw[aV hp,List.flatMap_append,sM,List.flatMap_cons,List.flatMap_nil,List.append_nil,hP];rfl
  . obtain rfl:k=w.zones.length:=by simp at h1;omega
    rw[List.take_length,hfin];exact af rfl rfl
end Go.Proofs.YtjapjahfllomkaaGreatDoor
namespace NP
open NQ Go
def nR(w:ay)(a:Bs)(ns:List Int)(i:Nat):Bool:=ns.any λn=>bH w a n&&(ij w.hosts n==(i:Int))
def ik(w:ay)(a:Bs)(ns:List Int):List Bool:=(List.range w.hosts.length).map (nR w a ns)
def pb(b:Bool):List D:=[.bool b]
theorem Dg(w:ay)(a:Bs)(ns:List Int):(ik w a ns).length=w.hosts.length:=by unfold ik;simp
theorem AO(w:ay)(a:Bs)(ns:List Int)(n:Int)(i:Nat):nR w a (ns++[n]) i=(nR w a ns i||(bH w a n&&(ij w.hosts n==(i:Int)))):=by unfold nR;rw[List.any_append];simp
theorem Ox{w:ay}{a:Bs}{ns:List Int}{n:Int}(h:bH w a n=false):ik w a (ns++[n])=ik w a ns:=by
 unfold ik;exact List.map_congr_left λi _=>by rw[AO,h];simp
theorem Md{w:ay}{a:Bs}{ns:List Int}{n:Int}(h:bH w a n=true){k:Nat}(hk:ij w.hosts n=(k:Int))(hl:k<w.hosts.length):ik w a (ns++[n])=(ik w a ns).set k true:=by
 apply List.ext_getElem?;intro i;unfold ik;rw[List.getElem?_set,aL,aL];by_cases hi:i<w.hosts.length
 . rw[List.getElem?_range hi];simp only[Option.map_some,aj,List.length_range];rw[AO,h,hk];by_cases e:k=i
   . subst e;simp[hl]
   . have:((k:Int)==(i:Int))=false:=by rw[beq_eq_false_iff_ne];omega
     rw[this,if_neg e];simp
 . rw[List.getElem?_eq_none (by rw[List.length_range];omega)];have:¬k=i:=by omega
   rw[if_neg this];rfl
theorem Mc(w:ay)(a:Bs):ik w a []=List.replicate w.hosts.length false:=by
 unfold ik;apply List.ext_getElem?;intro i;rw[aL,List.getElem?_replicate];by_cases hi:i<w.hosts.length
 . rw[List.getElem?_range hi,if_pos hi];rfl
 . rw[List.getElem?_eq_none (by rw[List.length_range];omega),if_neg hi];rfl
def ff(w:ay)(D:List Datum):List Int:=D.flatMap λd=>(aY w d.text).map (·.n)
theorem IM{w:ay}{D:List Datum}{k:Nat}{d:Datum}(h:D[k]? =some d):ff w (D.take (k+1))=ff w (D.take k)++(aY w d.text).map (·.n):=by
 unfold ff;rw[aV h,List.flatMap_append];simp
theorem E6{w:ay}(hv:aU w=true){a:Bs}{n:Int}(h:bH w a n=true):∃k:Nat,ij w.hosts n=(k:Int)/\k<w.hosts.length:=by
 unfold bH at h;obtain⟨p,hp,hh⟩:=List.any_eq_true.1 h;rw[aC, <- AF hv hp]at hh;obtain⟨_,h0,h1⟩:=bS hv p hp;have e:p.host=ij w.hosts n:=by simpa using hh.2
 exact⟨p.host.toNat,by omega,by omega⟩
theorem Oy{w:ay}(hv:aU w=true){a:Bs}(hc:(ba w.zones a).isSome=true){i:Nat}{h:ep}(hi:w.hosts[i]? =some h):nR w a (ff w ((bY w.zones a).getD [])) i=onB w a h:=by
 have hS:(bF w.zones a).1=((bY w.zones a).getD []).map (·.text):=by
  rw[oU hv hc];cases bY w.zones a <;> rfl
 unfold onB;rw[hS,Bool.eq_iff_iff,aC];unfold nR ff;simp only[List.any_eq_true,List.mem_flatMap,List.mem_map,aC,beq_iff_eq,cq,wV];have hat:=xo (yq hv) hi;constructor
 . rintro⟨n,⟨d,hd,x,hx,rfl⟩,h1,h2⟩;obtain⟨y,hy,hya⟩:=yp h2;rw[hi]at hy;have:h=y:=by simpa using hy
   subst this;exact⟨⟨d.text,⟨d,hd,rfl⟩,⟨x,hx,hya.symm⟩⟩,by rw[hya];exact h1⟩
 . rintro⟨⟨s,⟨d,hd,rfl⟩,⟨x,hx,e⟩⟩,h2⟩;exact⟨h.addr,⟨d,hd,x,hx,e⟩,h2,hat⟩
theorem JK{w:ay}(hv:aU w=true){a:Bs}(hc:(ba w.zones a).isSome=true){k:Nat}{h:ep}(hk:w.hosts[k]? =some h):l0 (onB w a) w.hosts (k+1)=l0 (onB w a) w.hosts k++(if nR w a (ff w ((bY w.zones a).getD [])) k=true then[(k:Int)]else[]):=by
 rw[AG hk,Oy hv hc hk]
end NP
namespace Go.Proofs.YtjapjahfllomkaaGreatDoor
open NQ Go NP Go.RowKit
set_option maxHeartbeats 2000000 in
theorem E5(w:ay)(a:Bs)(hF:cU w):NQ.Fn cx 16 [.agg (bw w),.str a] (.tuple [.d (.slice 1 ((dy w a).1.map bg)),.d (.int .i64 (dy w a).2)]) []:=by
 have fV:=y5 w hF;have fN:=mg a;have hh:=hF.hosts;have hzl:=hF.zones;cases hv:aU w with
 |false =>
  rw[hv]at fV;have e:dy w a=([],1):=by unfold dy;rw[hv];rfl
  rw[e];refine aB aP mixed Tryz.func16 (by kernel_rfl) rfl (ai rfl) ?_;conv=>whnf
  (refine⟨_,_,fV,?_⟩;conv=>whnf)
  exact af rfl rfl
 |true =>
 cases ha:ao a with
 |false =>
  rw[hv]at fV;rw[ha]at fN;have e:dy w a=([],1):=by unfold dy;rw[hv,ha];rfl
  rw[e];refine aB aP mixed Tryz.func16 (by kernel_rfl) rfl (ai rfl) ?_;conv=>whnf
  (refine⟨_,_,fV,?_⟩;conv=>whnf)
  (refine⟨_,_,fN,?_⟩;conv=>whnf)
  exact af rfl rfl
 |true =>
  rw[hv]at fV;rw[ha]at fN;have hz:∀p∈w.zones,aW p.zone=true:=λp hp=>(bS hv p hp).1
  have fC:=pK w.zones a hz (by omega);have hW:dy w a=(match ba w.zones a with|some _=>(l0 (onB w a) w.hosts w.hosts.length,0)|none=>([],4)):=by unfold dy;rw[if_pos (by rw[hv,ha];rfl)] <;> cases ba w.zones a <;> rfl
  rw[hW];refine aB aP mixed Tryz.func16 (by kernel_rfl) rfl (ai rfl) ?_;conv=>whnf
  (refine⟨_,_,fV,?_⟩;conv=>whnf)
  (refine⟨_,_,fN,?_⟩;conv=>whnf)
  (refine⟨_,_,fC,?_⟩;conv=>whnf)
  cases hx:ba w.zones a with
  |none =>
   conv=>whnf
   exact af rfl rfl
  |some x =>
   have hc:(ba w.zones a).isSome=true:=by rw[hx];rfl
   have hidx:=λ{k:Nat} {h:ep} (hk:w.hosts[k]? =some h)=>JK hv hc hk
   have fD:=yg w a hF hv ha hc;have hDs:((bY w.zones a).getD []).length<=8:=by
    cases hd:bY w.zones a with
    |none=>exact Nat.zero_le _
    |some q=>exact(nO hv hd).1
   generalize hDe:(bY w.zones a).getD []=De at *
   conv=>whnf
   (refine⟨_,_,fD,?_⟩;conv=>whnf)
   refine⟨au _,.inl rfl,au _,by(show((w.hosts.map dV).length:Int).toNat*1<=_;rw[aj];omega),by(show((w.hosts.map dV).length:Int)<=_;rw[aj];omega),?_⟩
   conv=>whnf
   refine⟨Nat,λk=>⟨[(1,.d (.str a)),(2,.ptr 2 0),(6,.d (.slice 3 (De.map bd))),(8,.own 36),(9,.d (.int .i64 k))],[(2,.box ((bw w).map .d)),(36,.row 4 1 ((ik w a (ff w (De.take k))).map pb) true)]⟩,λk=>k<=De.length,λk=>De.length-k,
    ⟨0,Nat.zero_le _,ag.keep ⟨ab,ab,ab,ab,ab,trivial⟩ ⟨ab,⟨?_,rfl⟩,trivial⟩⟩,λk hk=>?_⟩
   . show some (Blk.row _ 1 (List.replicate (((w.hosts.map dV).length:Int)).toNat [D.bool false]) true)=some (Blk.row _ 1 ((ik w a (ff w (De.take 0))).map pb) true)
     rw[show ff w (De.take 0)=[] by simp[ff],Mc,List.map_replicate,Int.toNat_natCast,aj];rfl
   dsimp only at hk ⊢
   conv=>whnf
   refine ae (λh1=>?_) (λh1=>?_) <;> (rw[h1];conv=>whnf)
   . have hlt:k<De.length:=by simpa using h1
     obtain⟨d,hd⟩:∃d,De[k]? =some d:=⟨_,ah hlt⟩
     have hAl:=qp hF hv d.text;have hsn:=IM (w:=w) hd
     (refine⟨(by kernel_rfl:bc _ _=true),?_⟩;conv=>whnf)
     refine⟨au k,bd d,aA hd,?_⟩
     conv=>whnf
     (refine⟨_,_,sj w d.text hF,?_⟩;conv=>whnf)
     refine⟨Nat,λj=>⟨[(1,.d (.str a)),(2,.ptr 2 0),(6,.d (.slice 3 (De.map bd))),(8,.own 36),(9,.d (.int .i64 k)),(10,.d (.slice 3 ((aY w d.text).map bd))),(11,.d (.int .i64 j))],[(2,.box ((bw w).map .d)),(36,.row 4 1 ((ik w a (ff w (De.take k)++((aY w d.text).take j).map (λx:Datum=>x.n))).map pb) true)]⟩,λj=>j<=(aY w d.text).length,λj=>(aY w d.text).length-j,
      ⟨0,Nat.zero_le _,ag.keep ⟨ab,ab,ab,ab,ab,ab,ab,trivial⟩ ⟨ab,⟨by rw[List.take_zero,List.map_nil,List.append_nil];rfl,rfl⟩,trivial⟩⟩,λj hj=>?_⟩
     dsimp only at hj ⊢
     conv=>whnf
     refine ae (λh2=>?_) (λh2=>?_) <;> (rw[h2];conv=>whnf)
     . have hjl:j<(aY w d.text).length:=by simpa using h2
       obtain⟨ad,had⟩:∃d',(aY w d.text)[j]? =some d' :=⟨_,ah hjl⟩
       have hstep:ff w (De.take k)++((aY w d.text).take (j+1)).map (λx:Datum=>x.n)=(ff w (De.take k)++((aY w d.text).take j).map (λx:Datum=>x.n))++[ad.n]:=by
        rw[aV had,List.map_append, <- List.append_assoc];rfl
       (refine⟨(by kernel_rfl:bc _ _=true),?_⟩;conv=>whnf)
       refine⟨au j,bd ad,aA had,?_⟩
       conv=>whnf
       (refine⟨_,_,wI w ad.n a hF hv,?_⟩;conv=>whnf)
       cases hsv:bH w a ad.n with
       |false =>
        conv=>whnf
        exact⟨j+1,hjl,by(show(aY w d.text).length-(j+1)<(aY w d.text).length-j;omega),ag.keep ⟨ab,ab,ab,ab,ab,ab,⟨ak (by omega),rfl⟩,trivial⟩ ⟨ab,⟨by rw[hstep,Ox hsv];rfl,rfl⟩,trivial⟩⟩
       |true =>
        obtain⟨q,hq,hql⟩:=E6 hv hsv;have hml:=Dg w a (ff w (De.take k)++((aY w d.text).take j).map (λx:Datum=>x.n));have hyes:=Md (ns:=ff w (De.take k)++((aY w d.text).take j).map (λx:Datum=>x.n)) hsv hq hql;rw[<- hstep]at hyes;obtain⟨b0,hb0⟩:∃b0,(ik w a (ff w (De.take k)++((aY w d.text).take j).map (λx:Datum=>x.n)))[q]? =some b0:=⟨_,ah (by rw[hml];exact hql)⟩
        generalize ik w a (ff w (De.take k)++((aY w d.text).take j).map (λx:Datum=>x.n))=ML at *
        conv=>whnf
        (refine⟨(by kernel_rfl:bc _ _=true),?_⟩;conv=>whnf)
        refine⟨au j,bd ad,aA had,?_⟩
        conv=>whnf
        (refine⟨_,_,CU w.hosts ad.n (by omega),?_⟩;conv=>whnf)
        refine⟨by omega,by rw[hq,Int.toNat_natCast];(show q<(ML.map pb).length);rw[aj,hml];exact hql,?_⟩
        conv=>whnf
        refine⟨pb b0,by rw[hq,Int.toNat_natCast];exact aA hb0,?_⟩
        conv=>whnf
        refine⟨j+1,hjl,by(show(aY w d.text).length-(j+1)<(aY w d.text).length-j;omega),ag.keep ⟨ab,ab,ab,ab,ab,ab,⟨ak (by omega),rfl⟩,trivial⟩ ⟨ab,⟨?_,rfl⟩,trivial⟩⟩;rw[hyes,List.map_set];show some (Blk.row _ 1 ((ML.map pb).set (ij w.hosts ad.n).toNat _) true)=_
        rw[hq,Int.toNat_natCast];rfl
     . obtain rfl:j=(aY w d.text).length:=by simp at h2;omega
       exact⟨k+1,hlt,by(show De.length-(k+1)<De.length-k;omega),ag.keep ⟨ab,ab,ab,ab,⟨ak (by omega),rfl⟩,trivial⟩ ⟨ab,⟨by rw[hsn,List.take_length];rfl,rfl⟩,trivial⟩⟩
   . obtain rfl:k=De.length:=by simp at h1;omega
     rw[List.take_length];have hml:=Dg w a (ff w De);have hget:∀i,i<w.hosts.length->(ik w a (ff w De))[i]? =some (nR w a (ff w De) i):=λi hi=>by
      unfold ik;rw[aL,List.getElem?_range hi];rfl
     generalize hML:ik w a (ff w De)=ML at *
     refine⟨Nat,λi=>⟨[(8,.own 36),(12,.own 300),(13,.d (.int .i64 i))],[(36,.row 4 1 (ML.map pb) true),(300,.row 3 1 ((l0 (onB w a) w.hosts i).map bg))]⟩,λi=>i<=w.hosts.length,λi=>w.hosts.length-i,
      ⟨0,Nat.zero_le _,(ag.jX 12 300 1 3 1 rfl rfl (by decide)).trans (ag.keep ⟨ab,ab,ab,trivial⟩ ⟨ab,ab,trivial⟩)⟩,λi hi=>?_⟩
     dsimp only at hi ⊢
     conv=>whnf
     refine ae (λh2=>?_) (λh2=>?_) <;> (rw[h2];conv=>whnf)
     . have hil:i<w.hosts.length:=by
        have:=of_decide_eq_true h2;rw[aj,hml]at this;omega
       obtain⟨h,hh2⟩:∃h,w.hosts[i]? =some h:=⟨_,ah hil⟩
       have hsn:=hidx hh2;have hgi:=hget i hil;have hix:=xp (onB w a) w.hosts i;refine⟨au i,by(show i<(ML.map pb).length);rw[aj,hml];exact hil,?_⟩
       conv=>whnf
       refine⟨pb (nR w a (ff w De) i),aA hgi,?_⟩
       conv=>whnf
       cases hm:nR w a (ff w De) i with
       |false =>
        rw[hm,if_neg (by simp),List.append_nil]at hsn
        conv=>whnf
        exact⟨i+1,hil,by(show w.hosts.length-(i+1)<w.hosts.length-i;omega),ag.keep ⟨ab,ab,⟨ak (by omega),rfl⟩,trivial⟩ ⟨ab,⟨by rw[hsn];rfl,rfl⟩,trivial⟩⟩
       |true =>
        rw[hm,if_pos rfl]at hsn
        conv=>whnf
        refine⟨by(show((l0 (onB w a) w.hosts i).map bg).length+1<=_);rw[aj];omega,by(show(((l0 (onB w a) w.hosts i).map bg).length+1)*8<=_);rw[aj];omega,?_⟩
        conv=>whnf
        exact⟨i+1,hil,by(show w.hosts.length-(i+1)<w.hosts.length-i;omega),ag.keep ⟨ab,ab,⟨ak (by omega),rfl⟩,trivial⟩ ⟨ab,⟨by rw[hsn,List.map_append];rfl,rfl⟩,trivial⟩⟩
     . obtain rfl:i=w.hosts.length:=by
        have:=of_decide_eq_false h2;rw[aj,hml]at this;omega
       exact af rfl rfl
end Go.Proofs.YtjapjahfllomkaaGreatDoor
namespace NP
open NQ Go
def uv(n:Bs)(t:Int)(d:Datum):Signed:=⟨⟨n,t,60,[d]⟩,[]⟩
def aNs:Bs:=[97,46,110,115]
def Qf:az:=⟨[46],[uv [46] 2 ⟨aNs,0,0⟩,uv [46] 4 ⟨[],1,60⟩,uv [110,115] 2 ⟨aNs,0,0⟩,uv aNs 1 ⟨[],1,0⟩]⟩
def nsL(a:Int):az:=⟨[110,115],[uv [110,115] 2 ⟨aNs,0,0⟩,uv [110,115] 4 ⟨[],1,60⟩,uv aNs 1 ⟨[],a,0⟩]⟩
def exL(a h:Int):ay:=⟨[⟨aNs,1,0⟩,⟨[98,46,110,115],5,0⟩],[⟨0,Qf⟩,⟨h,nsL a⟩],⟨[46],6,60,[⟨[],1,1⟩]⟩,[1]⟩
def exN:ay:=⟨[],[],⟨[],0,0,[]⟩,[]⟩
theorem pz(a h:Int):cU (exL a h):=⟨(by show 2<=1000;omega),(by show 2<=1000;omega),(by show 1<=1000;omega),λp hp=>by
 rcases List.mem_cons.1 hp with rfl|hp
 . kernel_rfl
 . rcases List.mem_cons.1 hp with rfl|hp
   . kernel_rfl
   . cases hp⟩
theorem NY:cU exN:=⟨by decide,by decide,by decide,λp hp=>by cases hp⟩
theorem xh{w:ay}(hF:cU w)(hv:aU w=true){l:List Fnd}(h:lr (uY w)=l):kv w=(l,0):=by
 unfold kv;rw[if_pos hv, <- DI hF hv,h]
theorem Pr:aU (exL 1 0)=true:=by kernel_rfl
theorem Ps:aU (exL 1 1)=true:=by kernel_rfl
theorem Pt:aU (exL 2 0)=true:=by kernel_rfl
theorem Pl:kv (exL 1 0)=([],0):=xh (pz 1 0) Pr (by kernel_rfl)
theorem Pm:kv (exL 1 1)=([⟨1,[110,115],aNs⟩],0):=xh (pz 1 1) Ps (by kernel_rfl)
theorem Pn:kv (exL 2 0)=([⟨1,[46],aNs⟩,⟨1,[110,115],aNs⟩,⟨2,[46],aNs⟩],0):=xh (pz 2 0) Pt (by kernel_rfl)
theorem Po:dy (exL 1 0) [110,115]=([0],0):=by kernel_rfl
theorem Pp:dy (exL 1 1) [110,115]=([],0):=by kernel_rfl
theorem Pq:dy (exL 1 0) [120]=([],4):=by kernel_rfl
theorem P5:kv exN=([],1):=by kernel_rfl
end NP
namespace Go.Proofs.YtjapjahfllomkaaGreatDoor
open NQ Go NP Go.RowKit
noncomputable def Lr:Cx:={cx with bld:=[17]}
theorem Qw:bq Lr:=aP
theorem Oz:Lr.P.follows .mixedOrders=true:=mixed
noncomputable def Ls:Cx:={cx with bld:=[12,18,22,30]}
theorem Qx:bq Ls:=aP
theorem OA:Ls.P.follows .mixedOrders=true:=mixed
noncomputable def Lt:Cx:={cx with bld:=[54,58,103]}
theorem Qy:bq Lt:=aP
theorem OB:Lt.P.follows .mixedOrders=true:=mixed
theorem kL(n:Bs)(t:Int)(s:Bs)(x y:Int):NQ.Fn cx 97 [.str n,.int .i64 t,.str s,.int .i64 x,.int .i64 y] (.agg ((an (uv n t ⟨s,x,y⟩)).map .d)) []:=by
 show NQ.Fn Lr _ _ _ _
 refine cK (λ_=>[]) Qw Oz Tryz.func97 (by kernel_rfl) rfl (ai rfl) ?_
 conv=>whnf
 exact af rfl rfl
set_option maxHeartbeats 4000000 in
theorem CD(a:Int)(b:Bool):NQ.Fn cx 41 [.int .i64 a,.bool b] (.agg ((bw (exL a (if b=true then 0 else 1))).map .d)) []:=by
 show NQ.Fn Ls _ _ _ _
 refine cK (fun|6=>[22,27,30]|_=>[]) Qx OA Tryz.func41 (by kernel_rfl) rfl (ai rfl) ?_
 conv=>whnf
 (refine⟨_,_,kL [46] 2 aNs 0 0,?_⟩;conv=>whnf)
 (refine⟨_,_,kL [46] 4 [] 1 60,?_⟩;conv=>whnf)
 (refine⟨_,_,kL [110,115] 2 aNs 0 0,?_⟩;conv=>whnf)
 (refine⟨_,_,kL aNs 1 [] 1 0,?_⟩;conv=>whnf)
 (refine⟨_,_,kL [110,115] 2 aNs 0 0,?_⟩;conv=>whnf)
 (refine⟨_,_,kL [110,115] 4 [] 1 60,?_⟩;conv=>whnf)
 (refine⟨_,_,kL aNs 1 [] a 0,?_⟩;conv=>whnf)
 (refine⟨(by kernel_rfl:bc _ _=true),?_⟩;conv=>whnf)
 (refine⟨_,_,kL [46] 6 [] 1 1,?_⟩;conv=>whnf)
 cases b
 . conv=>whnf
   exact af (by rfl) (by rfl)
 . conv=>whnf
   refine⟨by omega,(by show 1<2;omega),?_⟩
   conv=>whnf
   refine⟨_,rfl,?_⟩
   conv=>whnf
   exact af (by rfl) (by rfl)
theorem zA(a h:Int)(b:Bool)(e:h=(if b=true then 0 else 1)):NQ.Fn cx 41 [.int .i64 a,.bool b] (.agg ((bw (exL a h)).map .d)) []:=by
 subst e;exact CD a b
set_option maxHeartbeats 4000000 in
theorem JF:NQ.Fn cx 11 [] (.d (.bool true)) []:=by
 have hF1:=pz 1 0;have hF2:=pz 1 1;have hF3:=pz 2 0;have e1:=zA 1 0 true rfl;have e2:=zA 1 1 false rfl;have e3:=zA 2 0 true rfl;have f1:=lM (exL 1 0) hF1 (by show 2<=100;omega);have f2:=lM (exL 1 1) hF2 (by show 2<=100;omega);have f3:=lM (exL 2 0) hF3 (by show 2<=100;omega);have f4:=ph (exL 1 0) [110,115] hF1;have f5:=ph (exL 1 1) [110,115] hF2;have f6:=ph (exL 1 0) [120] hF1;have f7:=lM exN NY (by show 0<=100;omega);rw[Pl]at f1;rw[Pm]at f2;rw[Pn]at f3;rw[Po]at f4;rw[Pp]at f5;rw[Pq]at f6;rw[P5]at f7;have f8:=th [⟨1,[110,115],aNs⟩] [⟨1,[110,115],aNs⟩] (by show 1<=200000;omega)
 have f9:=th [⟨1,[46],aNs⟩,⟨1,[110,115],aNs⟩,⟨2,[46],aNs⟩] [⟨1,[46],aNs⟩,⟨1,[110,115],aNs⟩,⟨2,[46],aNs⟩] (by show 3<=200000;omega);have f10:=yP [0] [0] (by show 1<=200000;omega);rw[decide_eq_true rfl]at f8 f9 f10;show NQ.Fn Lt _ _ _ _
 refine cK (λ_=>[]) Qy OB Tryz.func11 (by kernel_rfl) rfl (ai rfl) ?_
 conv=>whnf
 (refine⟨_,_,e1,?_⟩;conv=>whnf)
 (refine⟨_,_,f1,?_⟩;conv=>whnf)
 (refine⟨_,_,e2,?_⟩;conv=>whnf)
 (refine⟨_,_,f2,?_⟩;conv=>whnf)
 (refine⟨_,_,e3,?_⟩;conv=>whnf)
 (refine⟨_,_,f3,?_⟩;conv=>whnf)
 (refine⟨_,_,e1,?_⟩;conv=>whnf)
 (refine⟨_,_,f4,?_⟩;conv=>whnf)
 (refine⟨_,_,e2,?_⟩;conv=>whnf)
 (refine⟨_,_,f5,?_⟩;conv=>whnf)
 (refine⟨_,_,e1,?_⟩;conv=>whnf)
 (refine⟨_,_,f6,?_⟩;conv=>whnf)
 (refine⟨_,_,f7,?_⟩;conv=>whnf)
 (refine⟨_,_,f8,?_⟩;conv=>whnf)
 (refine⟨_,_,f9,?_⟩;conv=>whnf)
 (refine⟨_,_,f10,?_⟩;conv=>whnf)
 exact af rfl rfl
end Go.Proofs.YtjapjahfllomkaaGreatDoor
namespace NP
open NQ Go
theorem LF{w:ay}(h:nr w=true):cU w/\w.zones.length<=20:=⟨(CF h).1,(CF h).2.2.1⟩
end NP
namespace Go.Proofs.YtjapjahfllomkaaGreatDoor
open NQ Go NP Go.RowKit
abbrev O7:Prop:=NQ.Fn cx 11 [] (.d (.bool true)) []
theorem N6{w:ay}(hF:cU w)(hz:w.zones.length<=100):(kv w).1.length<=20000:=by
 unfold kv;cases hv:aU w with
 |false=>rw[if_neg (by simp)];exact Nat.zero_le _
 |true =>
  rw[if_pos rfl];have h1:=oA (mS (findAll w)).nodup λf hf=>ov.1 hf
  have h2:=rl hF hv hz;show(lr (findAll w)).length<=_
  omega
theorem Ic(w:ay)(hF:cU w)(a:Bs):(dy w a).1.length<=1000:=by
 unfold dy;split
 . split
   . have:=xp (onB w a) w.hosts w.hosts.length;have:=hF.hosts;dsimp only;omega
   . exact Nat.zero_le _
 . exact Nat.zero_le _
theorem zO(hH:O7)(w:ay)(s:Bs):NQ.Fn cx 3 [.agg (bw w),.str s] (.d (.bool true)) []:=by
 refine aB aP mixed Tryz.func3 (by kernel_rfl) rfl (ai rfl) ?_;conv=>whnf
 (refine⟨_,_,hH,?_⟩;conv=>whnf)
 (refine⟨_,_,N0 w,?_⟩;conv=>whnf)
 cases hf:nr w with
 |false =>
  conv=>whnf
  exact af rfl rfl
 |true =>
  obtain⟨hF,hz⟩:=LF hf;have hfl:=N6 hF (by omega);have hsl:=Ic w hF s;have f1:=lM w hF (by omega);have f2:=DL w hF (by omega);have f3:=ph w s hF;have f4:=E5 w s hF;have f5:=th (kv w).1 (kv w).1 (by omega);have f6:=yP (dy w s).1 (dy w s).1 (by omega);rw[decide_eq_true rfl]at f5 f6;generalize kv w=FW at *
  generalize dy w s=SW at *
  have e1:(FW.2==FW.2)=true:=by simp
  have e2:(SW.2==SW.2)=true:=by simp
  conv=>whnf
  (refine⟨_,_,f1,?_⟩;conv=>whnf)
  (refine⟨_,_,f2,?_⟩;conv=>whnf)
  (refine⟨_,_,f3,?_⟩;conv=>whnf)
  (refine⟨_,_,f4,?_⟩;conv=>whnf)
  (refine⟨_,_,f5,?_⟩;conv=>whnf)
  rw[e1]
  conv=>whnf
  (refine⟨_,_,f6,?_⟩;conv=>whnf)
  rw[e2]
  conv=>whnf
  exact af rfl rfl
theorem zN(w:ay)(s:Bs):NQ.Fn cx 3 [.agg (bw w),.str s] (.d (.bool true)) []:=zO JF w s
end Go.Proofs.YtjapjahfllomkaaGreatDoor
