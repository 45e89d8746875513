/-
  Merged texts.
-/
import Derived.Test.YtmaepddmaghpjaaGreatDoorMGja
import Derived.Shelf.SlIter.Collect
set_option linter.all false
set_option maxRecDepth 100000
namespace NP
open NQ Go
open Go.Proofs.YtmaepddmaghpjaaGreatDoor (ba)
def kC(l:List (Bs×Int)):List (List D×D):=l.map λp=>([.str p.1,.int .i64 p.2],.bool true)
theorem zq(a:Bs)(n:Int):∀l:List (Bs×Int),ko [.str,.int .i64] [.str a,.int .i64 n] (kC l)=some (if l.contains (a,n)=true then some (.bool true)else none)
 |[]=>rfl
 |x::l=>by
  show(match cm [.str,.int .i64] [.d (.str a),.d (.int .i64 n)] [.d (.str x.1),.d (.int .i64 x.2)]with|some true=>_|some false=>ko _ _ (kC l)|none=>none)=_
  have:cm [.str,.int .i64] [.d (.str a),.d (.int .i64 n)] [.d (.str x.1),.d (.int .i64 x.2)]=some ((a,n)==x):=by
   show some ((a==x.1)&&((n==x.2)&&true))=_
   rw[gM];rfl
  rw[this,List.contains_cons];cases h:((a,n)==x)with
  |true=>simp
  |false=>simp only[dF];exact zq a n l
theorem BJ{a:Bs}{n:Int}:∀{l:List (Bs×Int)},mz [.str,.int .i64] [.str a,.int .i64 n] (.bool true) (kC l)=some (kC (if l.contains (a,n)=true then l else l++[(a,n)]))
 |[]=>rfl
 |x::l=>by
  show(match cm [.str,.int .i64] [.d (.str a),.d (.int .i64 n)] [.d (.str x.1),.d (.int .i64 x.2)]with|some true=>_|some false=>(mz _ _ _ (kC l)).map _|none=>none)=_
  have:cm [.str,.int .i64] [.d (.str a),.d (.int .i64 n)] [.d (.str x.1),.d (.int .i64 x.2)]=some ((a,n)==x):=by
   show some ((a==x.1)&&((n==x.2)&&true))=_
   rw[gM];rfl
  rw[this,List.contains_cons];cases h:((a,n)==x)with
  |true =>
   have hx:x=(a,n):=(eq_of_beq h).symm;subst hx;simp[kC]
  |false =>
   simp only[dF];rw[BJ (l:=l)];split <;> rfl
def oY(l:List (Bs×Int))(p:Bs×Int):List (Bs×Int):=if l.contains p=true then l else l++[p]
def lz(w:az)(l:List ai):List (Bs×Int):=l.foldl (λout p=>oY out (mJ w p)) []
theorem Gn(w:az)(l:List ai)(p:ai):lz w (l++[p])=oY (lz w l) (mJ w p):=by unfold lz;rw[List.foldl_append];rfl
theorem FZ{l:List (Bs×Int)}{p x:Bs×Int}:x∈oY l p ↔ x∈l\/x=p:=by
 unfold oY;split
 . rename_i h;exact⟨.inl,λhx=>hx.elim id λe=>e ▸ dw.1 h⟩
 . simp
theorem Bu(w:az):∀(l:List ai) (out:List (Bs×Int)) (x:Bs×Int),x∈l.foldl (λout p=>oY out (mJ w p)) out ↔ x∈out\/ ∃p∈l,mJ w p=x
 |[],out,x=>by simp
 |p::t,out,x=>by
  show x∈t.foldl _ (oY out (mJ w p)) ↔ _
  rw[Bu w t,FZ];constructor
  . rintro((h|h)|⟨q,hq,e⟩)
    . exact .inl h
    . exact .inr ⟨p,List.mem_cons_self .., h.symm⟩
    . exact .inr ⟨q,aK _ hq,e⟩
  . rintro(h|⟨q,hq,e⟩)
    . exact .inl (.inl h)
    . rcases List.mem_cons.1 hq with rfl|hq
      . exact .inl (.inr e.symm)
      . exact .inr ⟨q,hq,e⟩
def vm(w:az):List (Bs×Int):=lz w (de gT w.zones)
theorem EK(w:az)(a:Bs)(n:Int):(vm w).contains (a,n)=bM w a n:=by
 rw[Bool.eq_iff_iff,dw];unfold vm lz bM;rw[Bu,List.any_eq_true];have hperm:=gG (pa w.zones);constructor
 . rintro(h|⟨p,hp,e⟩)
   . cases h
   . refine⟨p,hperm.mem_iff.1 hp,?_⟩;unfold mJ at e;simp only[Prod.mk.injEq]at e;simp[e.1,e.2]
 . rintro⟨p,hp,h⟩;simp only[ay,beq_iff_eq]at h;refine .inr ⟨p,hperm.mem_iff.2 hp,?_⟩;unfold mJ;rw[h.1,h.2]
def bU(l:List ai):List (Bs×D):=l.map λp=>(p.zone.apex,.agg (aT p.zone))
theorem jV(a:Bs):∀l:List ai,cD a (bU l)=(l.find? λp=>p.zone.apex==a).map λp=>D.agg (aT p.zone)
 |[]=>rfl
 |p::t=>by
  show(if a=p.zone.apex then _ else cD a (bU t))=_
  by_cases h:a=p.zone.apex
  . rw[if_pos h,List.find?_cons_of_pos (by simp[h])];rfl
  . rw[if_neg h,jV a t,List.find?_cons_of_neg (by simpa using λe=>h e.symm)]
theorem wk{p:ai}:∀{l:List ai},rj l p.zone.apex=false->dB p.zone.apex (.agg (aT p.zone)) (bU l)=bU (l++[p])
 |[],_=>rfl
 |x::t,h=>by
  unfold rj at h;rw[List.any_cons,Bool.or_eq_false_iff]at h;have hne:¬p.zone.apex=x.zone.apex:=λe=>by rw[e]at h;simp at h
  show(if p.zone.apex=x.zone.apex then _ else _::dB _ _ (bU t))=_
  rw[if_neg hne,wk h.2];rfl
theorem xj{w:az}(h:aN w=true)(a:Bs):(eT w.zones).find? (λp=>p.zone.apex==a)=(aY w.zones a).map (·.2):=by
 have C:=iY h;cases hf:(eT w.zones).find? (λp=>p.zone.apex==a)with
 |none =>
  have hc:=C.copy a;cases hx:aY (eT w.zones) a with
  |none=>rw[hx]at hc;exact hc
  |some x =>
   obtain⟨h1,h2,_⟩:=dG hx;have:=List.find?_eq_none.1 hf x.2 h1;simp[h2]at this
 |some p =>
  have hp:=List.mem_of_find?_eq_some hf;have ha:p.zone.apex=a:=by simpa using List.find?_some hf
  have:=(C.mem p).1 hp;rw[ha]at this;exact this.symm
theorem pv(a:Bs)(l:List ai):eL (.str a) ((bU l).map cE)=some (cD a (bU l)):=by
 have:∀m:List (Bs×D),eL (.str a) (m.map cE)=some (cD a m):=λm=>by
  induction m with
  |nil=>rfl
  |cons p t ih =>
   obtain⟨b,v⟩:=p;show(match eG (.str a) [.tuple [.str b]]with|some true=>_|some false=>eL (.str a) (t.map cE)|none=>none)=(some (if a=b then some v else cD a t))
   have:eG (.str a) [.tuple [.str b]]=some (a==b):=rfl;rw[this];by_cases h:a=b
   . subst h;simp
   . have:(a==b)=false:=by simp[h]
     rw[this,if_neg h];exact ih
 exact this _
def cB(l:List (Bs×List Int)):List (Bs×D):=l.map λp=>(p.1,.slice 1 (p.2.map ba))
def kJ(w:az)(l:List (Bs×List Int)):Prop:= ∀p∈l,p.2=cM w p.1
def iN(l:List (Bs×List Int))(s:Bs):Option (List Int):=(l.find? λp=>p.1==s).map (·.2)
theorem qU(s:Bs):∀l:List (Bs×List Int),cD s (cB l)=(iN l s).map λx=>D.slice 1 (x.map ba)
 |[]=>rfl
 |p::t=>by
  show(if s=p.1 then _ else cD s (cB t))=_
  unfold iN;by_cases h:s=p.1
  . rw[if_pos h,List.find?_cons_of_pos (by simp[h])];rfl
  . rw[if_neg h,qU s t,List.find?_cons_of_neg (by simpa using λe=>h e.symm)];rfl
theorem yw{s:Bs}{x:List Int}:∀{l:List (Bs×List Int)},iN l s=none->dB s (.slice 1 (x.map ba)) (cB l)=cB (l++[(s,x)])
 |[],_=>rfl
 |p::t,h=>by
  unfold iN at h;have hne:¬s=p.1:=λe=>by rw[List.find?_cons_of_pos (by simp[e])]at h;cases h
  rw[List.find?_cons_of_neg (by simpa using λe=>hne e.symm)]at h;show(if s=p.1 then _ else _::dB _ _ (cB t))=_
  rw[if_neg hne,yw h];rfl
theorem AZ{w:az}{l:List (Bs×List Int)}(h:kJ w l){s:Bs}{x:List Int}(hf:iN l s=some x):x=cM w s:=by
 unfold iN at hf;cases hp:l.find? (λp=>p.1==s)with
 |none=>rw[hp]at hf;cases hf
 |some p =>
  rw[hp]at hf;cases hf;have:=h p (List.mem_of_find?_eq_some hp);show p.2=cM w s
  rw[this,show p.1=s by simpa using List.find?_some hp]
def jU(w:az)(l:List (Bs×List Int))(s:Bs):List (Bs×List Int):=if (iN l s).isSome=true then l else l++[(s,cM w s)]
theorem ub{w:az}{l:List (Bs×List Int)}(h:kJ w l)(s:Bs):kJ w (jU w l s):=by
 unfold jU;split
 . exact h
 . intro p hp;rcases List.mem_append.1 hp with hp|hp
   . exact h p hp
   . rw[List.mem_singleton]at hp;subst hp;rfl
end NP
namespace Go.Proofs.YtmaepddmaghpjaaGreatDoor
open NQ Go NP Go.RowKit
theorem yZ(z:aF)(hz:z.sets.length<=100000)(hd:∀s∈z.sets,s.set.type=4-> ∃d,s.set.data[0]? =some d):NQ.Fn cx 61 [.agg (aT z)] (.d (.int .i64 (gi z))) []:=by
 refine aA aO mixed Tryz.func61 (by kernel_rfl) rfl (ag rfl) ?_;conv=>whnf
 refine⟨Nat,λk=>⟨[(1,.ptr 1 0),(6,.d (.slice 5 (z.sets.map ax))),(7,.d (.int .i64 ((z.sets.map ax).length:Int))),(8,.d (.int .i64 k))],[(1,.box ((aT z).map .d))]⟩,λk=>k<=z.sets.length/\(z.sets.take k).find? (λs=>s.set.type==4)=none,λk=>z.sets.length-k,
  ⟨0,⟨Nat.zero_le _,rfl⟩,aj.keep ⟨ab,ab,ab,ab,trivial⟩ ⟨ab,trivial⟩⟩,λk ⟨hk,hno⟩=>?_⟩
 dsimp only at hk hno ⊢
 conv=>whnf
 refine ae (λh1=>?_) (λh1=>?_) <;> (rw[h1];conv=>whnf)
 . have hlt:k<z.sets.length:=by simpa using h1
   obtain⟨s,hs⟩:∃s,z.sets[k]? =some s:=⟨_,ah hlt⟩
   have hsm:=ao hs;have hsplit:z.sets.find? (λs=>s.set.type==4)=(s::z.sets.drop (k+1)).find? (λs=>s.set.type==4):=by
    conv=>lhs;rw[<- List.take_append_drop k z.sets]
    rw[List.find?_append,hno,Option.none_or,drop_cons hs]
   refine⟨aw k,ax s,aG hs,?_⟩
   conv=>whnf
   refine ae (λh2=>?_) (λh2=>?_) <;> (rw[h2];conv=>whnf)
   . have ht:s.set.type=4:=by simpa using h2
     obtain⟨d,hdd⟩:=hd s hsm ht;refine⟨by decide,bz d,(by show(s.set.data.map bz)[0]? =_;rw[aM,hdd];rfl),?_⟩
     conv=>whnf
     refine af rfl ?_;unfold gi;rw[hsplit,List.find?_cons_of_pos (by exact h2)];dsimp only;rw[hdd];rfl
   . have h2' :(s.set.type==4)=false:=h2;refine⟨k+1,⟨hlt,?_⟩,by(show z.sets.length-(k+1)<z.sets.length-k;omega),aj.keep ⟨ab,ab,ab,⟨an (by omega),rfl⟩,trivial⟩ ⟨ab,trivial⟩⟩;rw[bj hs,List.find?_append,hno,Option.none_or,List.find?_cons_of_neg (by rw[h2'];simp)];rfl
 . obtain rfl:k=z.sets.length:=by simp at h1;omega
   rw[List.take_length]at hno;refine af rfl ?_;unfold gi;rw[hno];rfl
theorem wW{z:aF}(hv:aW z=true):∀s∈z.sets,s.set.type=4-> ∃d,s.set.data[0]? =some d:=λs hs _=>by
 exact qC ((dt.1 hv).ord.set s hs)
theorem Rk(p q:ai)(hp:aW p.zone=true)(hq:aW q.zone=true):NQ.Fn cx 58 [.agg (aV p),.agg (aV q)] (.d (.int .i64 (gT p q))) []:=by
 have few:∀{z:aF},aW z=true->z.sets.length<=100000:=λ{z} h=>by have:=(dt.1 h).ord.few;omega
 refine aA aO mixed Tryz.func58 (by kernel_rfl) rfl (ag rfl) ?_;conv=>whnf
 (refine⟨(by kernel_rfl:bg _ _=true),?_⟩;conv=>whnf)
 (refine⟨_,_,yZ q.zone (few hq) (wW hq),?_⟩;conv=>whnf)
 (refine⟨_,_,yZ p.zone (few hp) (wW hp),?_⟩;conv=>whnf)
 (refine⟨_,_,nQ (gi q.zone) (gi p.zone),?_⟩;conv=>whnf)
 (refine⟨_,_,nQ p.host q.host,?_⟩;conv=>whnf)
 (refine⟨_,Jy [cR (gi q.zone) (gi p.zone),cR p.host q.host] (by simp),rfl,?_⟩;conv=>whnf)
 exact af rfl rfl
theorem mC(s:gx)(hl:s.data.length<=100000):NQ.Fn cx 32 [.agg (mG s)] (.d (.slice 1 ((s.data.map (·.n)).map ba))) []:=by
 refine aA aO mixed Tryz.func32 (by kernel_rfl) rfl (ag rfl) ?_;conv=>whnf
 refine⟨Nat,λk=>⟨[(3,.own 3),(7,.d (.slice 3 (s.data.map bz))),(8,.d (.int .i64 ((s.data.map bz).length:Int))),(9,.d (.int .i64 k))],[(3,.row 3 1 (((s.data.take k).map (·.n)).map ba))]⟩,λk=>k<=s.data.length,λk=>s.data.length-k,
  ⟨0,Nat.zero_le _,(aj.ni 3 3 1 3 1 rfl rfl (by decide)).trans (aj.keep ⟨ab,ab,ab,ab,trivial⟩ ⟨ab,trivial⟩)⟩,λk hk=>?_⟩
 dsimp only at hk ⊢
 conv=>whnf
 refine ae (λh1=>?_) (λh1=>?_) <;> (rw[h1];conv=>whnf)
 . have hlt:k<s.data.length:=by simpa using h1
   obtain⟨d,hd⟩:∃d,s.data[k]? =some d:=⟨_,ah hlt⟩
   refine⟨aw k,bz d,aG hd,?_⟩
   conv=>whnf
   refine⟨by(show(((s.data.take k).map (·.n)).map ba).length+1<=_);simp;omega,by(show((((s.data.take k).map (·.n)).map ba).length+1)*8<=_);simp;omega,?_⟩
   conv=>whnf
   refine⟨k+1,hlt,by(show s.data.length-(k+1)<s.data.length-k;omega),aj.keep ⟨ab,ab,ab,⟨an (by omega),rfl⟩,trivial⟩ ⟨⟨?_,rfl⟩,trivial⟩⟩;rw[bj hd,List.map_append,List.map_append];rfl
 . obtain rfl:k=s.data.length:=by simp at h1;omega
   rw[List.take_length];exact af rfl rfl
theorem BM{l:List Signed}{a:Bs}{k:Nat}{s:Signed}(h:l[k]? =some s):(((l.take (k+1)).filter λs=>(s.set.name==a)&&(s.set.type==2)).flatMap λs=>s.set.data.map (·.text)) =
 (((l.take k).filter λs=>(s.set.name==a)&&(s.set.type==2)).flatMap λs=>s.set.data.map (·.text))++(if ((s.set.name==a)&&(s.set.type==2))=true then s.set.data.map (·.text)else[]):=by
 rw[bj h,List.filter_append,List.flatMap_append];by_cases hb:((s.set.name==a)&&(s.set.type==2))=true
 . rw[if_pos hb,List.filter_cons_of_pos (by exact hb)];simp
 . rw[if_neg hb,List.filter_cons_of_neg (by exact hb)];simp
theorem oB{z:aF}(a:Bs)(hd:∀s∈z.sets,s.set.data.length<=100):∀k,(((z.sets.take k).filter λs=>(s.set.name==a)&&(s.set.type==2)).flatMap λs=>s.set.data.map (·.text)).length<=100*k
 |0=>by simp
 |k+1=>by
  have ih:=oB a hd k;cases hs:z.sets[k]? with
  |none =>
   have:z.sets.length<=k:=by
    rcases Nat.lt_or_ge k z.sets.length with h|h
    . rw[ah h]at hs;cases hs
    . exact h
   rw[List.take_of_length_le (by omega)];rw[List.take_of_length_le this]at ih;omega
  |some s =>
   rw[BM hs,List.length_append];have:=hd s (ao hs);split
   . rw[ak];omega
   . rw[List.length_nil];omega
set_option maxHeartbeats 1000000 in
theorem nU(z:aF)(a:Bs)(hz:z.sets.length<=1000)(hd:∀s∈z.sets,s.set.data.length<=100):NQ.Fn cx 25 [.agg (aT z),.str a] (.d (.slice 1 ((bR z a).map aL))) []:=by
 have hlen:=oB (z:=z) a hd;refine aA aO mixed Tryz.func25 (by kernel_rfl) rfl (ag rfl) ?_;conv=>whnf
 refine⟨Nat,λk=>⟨[(1,.d (.str a)),(5,.own 5),(11,.d (.slice 5 (z.sets.map ax))),(12,.d (.int .i64 ((z.sets.map ax).length:Int))),(13,.d (.int .i64 k))],[(5,.row 9 1 ((((z.sets.take k).filter λs=>(s.set.name==a)&&(s.set.type==2)).flatMap λs=>s.set.data.map (·.text)).map aL))]⟩,λk=>k<=z.sets.length,λk=>z.sets.length-k,
  ⟨0,Nat.zero_le _,(aj.ni 5 5 1 9 1 rfl rfl (by decide)).trans (aj.keep ⟨ab,ab,ab,ab,ab,trivial⟩ ⟨ab,trivial⟩)⟩,λk hk=>?_⟩
 dsimp only at hk ⊢
 conv=>whnf
 refine ae (λh1=>?_) (λh1=>?_) <;> (rw[h1];conv=>whnf)
 . have hlt:k<z.sets.length:=by simpa using h1
   obtain⟨s,hs⟩:∃s,z.sets[k]? =some s:=⟨_,ah hlt⟩
   have hsnoc:=BM (a:=a) hs;have hl:=hlen k;have hsd:=hd s (ao hs);generalize hP:(((z.sets.take k).filter λs=>(s.set.name==a)&&(s.set.type==2)).flatMap λs=>s.set.data.map (·.text))=P at *
   generalize hP' :(((z.sets.take (k+1)).filter λs=>(s.set.name==a)&&(s.set.type==2)).flatMap λs=>s.set.data.map (·.text))=P' at *
   have next : ∀ st, aj cx st ⟨[(1, .d (.str a)), (5, .own 5), (11, .d (.slice 5 (z.sets.map ax))), (12, .d (.int .i64 ((z.sets.map ax).length : Int))), (13, .d (.int .i64 (k + 1 : Nat)))], [(5, .row 9 1 (P'.map aL))]⟩ ->
       ∃y,y<=z.sets.length/\z.sets.length-y<z.sets.length-k/\aj cx st ⟨[(1,.d (.str a)),(5,.own 5),(11,.d (.slice 5 (z.sets.map ax))),(12,.d (.int .i64 ((z.sets.map ax).length:Int))),(13,.d (.int .i64 (y:Nat)))],[(5,.row 9 1 ((((z.sets.take y).filter λs=>(s.set.name==a)&&(s.set.type==2)).flatMap λs=>s.set.data.map (·.text)).map aL))]⟩:=λst h=>⟨k+1,hlt,by omega,by rw[hP'];exact h⟩
   refine⟨aw k,ax s,aG hs,?_⟩
   conv=>whnf
   refine ae (λh2=>?_) (λh2=>?_) <;> (rw[h2];conv=>whnf)
   case refine_2 =>
    have h2' :(s.set.name==a)=false:=h2;rw[h2',iF,if_neg (by simp),List.append_nil]at hsnoc;rw[hsnoc]at next
    exact next _ (aj.keep ⟨ab,ab,ab,ab,⟨an (by omega),rfl⟩,trivial⟩ ⟨ab,trivial⟩)
   refine ae (λh3=>?_) (λh3=>?_) <;> (rw[h3];conv=>whnf)
   case refine_2 =>
    have h3' :(s.set.type==2)=false:=h3;rw[h3',iE,if_neg (by simp),List.append_nil]at hsnoc;rw[hsnoc]at next
    exact next _ (aj.keep ⟨ab,ab,ab,ab,⟨an (by omega),rfl⟩,trivial⟩ ⟨ab,trivial⟩)
   rw[show(s.set.name==a)=true from h2,show(s.set.type==2)=true from h3,if_pos (show(true&&true)=true from rfl)]at hsnoc;refine⟨Nat,λj=>⟨[(1,.d (.str a)),(5,.own 5),(11,.d (.slice 5 (z.sets.map ax))),(12,.d (.int .i64 ((z.sets.map ax).length:Int))),(13,.d (.int .i64 k)),(30,.d (.slice 3 (s.set.data.map bz))),(31,.d (.int .i64 ((s.set.data.map bz).length:Int))),(32,.d (.int .i64 j))],[(5,.row 9 1 ((P++(s.set.data.take j).map (·.text)).map aL))]⟩,λj=>j<=s.set.data.length,λj=>s.set.data.length-j,
    ⟨0,Nat.zero_le _,aj.keep ⟨ab,ab,ab,ab,ab,ab,ab,ab,trivial⟩ ⟨⟨by show _=some (Blk.row _ _ ((P++[]).map aL) _);rw[List.append_nil];rfl,rfl⟩,trivial⟩⟩,λj hj=>?_⟩
   dsimp only at hj ⊢
   conv=>whnf
   refine ae (λh4=>?_) (λh4=>?_) <;> (rw[h4];conv=>whnf)
   . have hjl:j<s.set.data.length:=by simpa using h4
     obtain⟨d,hdd⟩:∃d,s.set.data[j]? =some d:=⟨_,ah hjl⟩
     refine⟨aw j,bz d,aG hdd,?_⟩
     conv=>whnf
     refine⟨by(show((P++(s.set.data.take j).map (·.text)).map aL).length+1<=_);simp;omega,by(show(((P++(s.set.data.take j).map (·.text)).map aL).length+1)*16<=_);simp;omega,?_⟩
     conv=>whnf
     refine⟨j+1,hjl,by(show s.set.data.length-(j+1)<s.set.data.length-j;omega),aj.keep ⟨ab,ab,ab,ab,ab,ab,ab,⟨an (by omega),rfl⟩,trivial⟩ ⟨⟨?_,rfl⟩,trivial⟩⟩;have e:(P++(s.set.data.take (j+1)).map (·.text)).map aL=(P++(s.set.data.take j).map (·.text)).map aL++[aL d.text]:=by rw[bj hdd];simp
     rw[e];rfl
   . obtain rfl:j=s.set.data.length:=by simp at h4;omega
     rw[List.take_length, <- hsnoc];exact next _ (aj.keep ⟨ab,ab,ab,ab,⟨an (by omega),rfl⟩,trivial⟩ ⟨ab,trivial⟩)
 . obtain rfl:k=z.sets.length:=by simp at h1;omega
   rw[List.take_length];exact af rfl rfl
def yh(f:Fnd):Prop:=aq f.zone=true/\aq f.name=true
theorem FA(a b:Fnd)(ha:yh a)(hb:yh b):NQ.Fn cx 35 [.agg (cr a),.agg (cr b)] (.d (.int .i64 (gS a b))) []:=by
 have e1:=oC a.zone b.zone;have e2:=oC a.name b.name;rw[show cu a.zone b.zone=(aI a.zone b.zone,0) by unfold cu;rw[if_pos ⟨ha.1,hb.1⟩]]at e1;rw[show cu a.name b.name=(aI a.name b.name,0) by unfold cu;rw[if_pos ⟨ha.2,hb.2⟩]]at e2;refine aA aO mixed Tryz.func35 (by kernel_rfl) rfl (ag rfl) ?_;conv=>whnf
 (refine⟨_,_,e1,?_⟩;conv=>whnf)
 (refine⟨_,_,e2,?_⟩;conv=>whnf)
 (refine⟨_,_,nQ a.kind b.kind,?_⟩;conv=>whnf)
 (refine⟨_,Jy [cR a.kind b.kind,aI a.zone b.zone,aI a.name b.name] (by simp),rfl,?_⟩;conv=>whnf)
 exact af rfl rfl
end Go.Proofs.YtmaepddmaghpjaaGreatDoor
namespace NP
open NQ Go
def placeOf:List D->Int×Int
 | .int _ h:: .str _:: .slice _ rows::_=>(h,match rows.find? (λr=>match r with|_:: .int _ t::_=>t==4|_=>false)with
  |some (_::_::_:: .slice _ ((_:: .int _ n::_)::_)::_)=>n
  |_=>0)
 |_=>(0,0)
def Iu(x y:List D):Int:=jC [cR (placeOf y).2 (placeOf x).2,cR (placeOf x).1 (placeOf y).1]
theorem zg(p:ai):placeOf (aV p)=(p.host,gi p.zone):=by
 obtain⟨h,a,l⟩:=p;unfold placeOf aV gi;dsimp only
 congr 1
 have e:(l.map ax).find? (λr=>match r with|_:: .int _ t::_=>t==4|_=>false)=(l.find? λs=>s.set.type==4).map ax:=by
  rw[List.find?_map];rfl
 rw[e];cases l.find? (λs=>s.set.type==4)with
 |none=>rfl
 |some s =>
  obtain⟨⟨n,t,li,da⟩,sg⟩:=s;cases da with
  |nil=>rfl
  |cons d r=>rfl
theorem xm(p q:ai):Iu (aV p) (aV q)=gT p q:=by unfold Iu;rw[zg,zg];rfl
def Sc(w:az):List AV:=(aZ (uc w)).map .d++[.d (.kmap ((bU (eT w.zones)).map cE)),.d (.kmap (kC (vm w)))]
def cP(w:az)(F:Nat):List AV:=Sc w++[.omap F]
end NP
namespace Go.Proofs.YtmaepddmaghpjaaGreatDoor
open NQ Go NP Go.RowKit
noncomputable def cxC:Cx:={cx with chg:=λg=>match Nat.beq g 57 with|true=>2|false=>cx.chg g}
theorem tyC:bl cxC:=aO
theorem Sx:cxC.P.follows .mixedOrders=true:=mixed
theorem MA(l:List ai)(hv:∀p∈l,aW p.zone=true)(hl:l.length<=100000)(fl:Bool):FnR cx 57 false 47 3 (l.map aV) fl [.fn 58 [] []] ((de gT l).map aV):=by
 rw[<- vo aV gT Iu l λx _ y _=>xm x y];exact xZ (cx:=cx) (ρ:=Tryz.zy) Tryz.SM (k:=3) Tryz.isAgg47 Tryz.sizeOf47 ⟨_,Tryz.func57,by kernel_rfl,rfl⟩
  (λx hx y hy=>by
   obtain⟨a,ha,rfl⟩:=List.mem_map.1 hx;obtain⟨b,hb,rfl⟩:=List.mem_map.1 hy;rw[xm];exact Rk a b (hv a ha) (hv b hb)) (enters_of Tryz.func58 (by kernel_rfl) rfl) ((pa l).map λx _ y _=>xm x y) (by rw[ak];omega)
def fzC:Nat->List Nat
 |3=>[88888]
 |5=>[23]
 |8=>[66666]
 |14=>[16,17,200]
 |_=>[]
set_option maxHeartbeats 4000000 in
theorem uY(w:az)(hF:cA w)(hv:aN w=true):NQ.Fn cx 21 [.agg (aZ w)] (.agg (cP w 18)) [(18,.smap [])]:=by
 show NQ.Fn cxC _ _ _ _
 have hZ:=bB hv;have hzl:=hF.zones;have hS:=λfl=>MA w.zones (λp hp=>(hZ p hp).1) (by omega) fl
 have hperm:=gG (pa w.zones);have hcen:eT w.zones=jP (de gT w.zones):=rfl;have hsit:vm w=lz w (de gT w.zones):=rfl;unfold cP Sc uc Kr;rw[hcen,hsit];generalize de gT w.zones=L at *
 have hLm:∀p∈L,p∈w.zones:=λp hp=>hperm.subset hp
 have hLl:L.length=w.zones.length:=hperm.length_eq;refine cC fzC tyC Sx Tryz.func21 (by kernel_rfl) rfl (ag rfl) ?_
 conv=>whnf
 refine⟨aw _,.inl rfl,aw _,by(show((w.zones.map aV).length:Int).toNat*48<=_;rw[ak];omega),by(show((w.zones.map aV).length:Int)<=_;rw[ak];omega),?_⟩
 conv=>whnf
 refine⟨by(show(w.zones.map aV).length=_;rw[List.length_replicate];rfl),?_⟩
 conv=>whnf
 refine⟨_,hS _,?_⟩
 conv=>whnf
 refine ⟨Nat, fun k => ⟨[(1, .ptr 1 0), (2, .ptr 2 0), (3, .ptr 3 0), (30, .d (.slice 3 (L.map aV))), (31, .d (.int .i64 ((L.map aV).length : Int))), (32, .d (.int .i64 k))],
     [(1,.box ((aZ w).map .d)),(2,.box [.nil 3,.nil 3,.d (.str []),.d (.int .i64 0),.d (.int .i64 0),.nil 3,.nil 1,.d .nmap,.d .nmap,.d .nmap]),(3,.box (.d (.slice 3 (w.hosts.map dS)):: .own 200::(((aZ w).drop 2).map .d++[.omap 16,.omap 17,.omap 18]))),(200,.row 47 3 ((jP (L.take k)).map aV)),(16,.smap (bU (jP (L.take k)))),(17,.kmap (kC (lz w (L.take k)))),(18,.smap [])]⟩,
  λk=>k<=L.length,λk=>L.length-k,⟨0,Nat.zero_le _,(aj.oP 3 1 200 3 (.d (.slice 3 (w.hosts.map dS)):: .nil 3::(((aZ w).drop 2).map .d++[.omap 16,.omap 17,.omap 18])) 47 3 rfl rfl rfl (by decide)).trans (aj.keep ⟨ab,ab,ab,ab,ab,ab,trivial⟩ ⟨ab,ab,ab,ab,ab,ab,ab,trivial⟩)⟩,λk hk=>?_⟩
 dsimp only at hk ⊢
 conv=>whnf
 refine ae (λh1=>?_) (λh1=>?_) <;> (rw[h1];conv=>whnf)
 . have hlt:k<L.length:=by simpa using h1
   obtain⟨p,hp⟩:∃p,L[k]? =some p:=⟨_,ah hlt⟩
   obtain⟨_,h0,hh⟩:=hZ p (hLm p (ao hp));obtain⟨hk',hke⟩:∃j:Nat,p.host=(j:Int):=⟨p.host.toNat,by omega⟩
   obtain⟨h,hhk⟩:∃h,w.hosts[hk']? =some h:=⟨_,ah (by omega)⟩
   have haddr:mJ w p=(p.zone.apex,h.addr):=by unfold mJ addrOf;rw[hke,Int.toNat_natCast,hhk]
   have hput:mz [.str,.int .i64] [.str p.zone.apex,.int .i64 h.addr] (.bool true) (kC (lz w (L.take k)))=some (kC (lz w (L.take (k+1)))):=by
    rw[BJ,bj hp,Gn,haddr];rfl
   have hcf:=jV p.zone.apex (jP (L.take k));have hpk:jP (L.take (k+1))=bY (jP (L.take k)) p:=by rw[bj hp,JF]
   have hpl:(jP (L.take k)).length<=L.length:=by
    have:=qV (L.take k) [];rw[List.length_take]at this;have h2:(jP (L.take k)).length<=0+min k L.length:=this;omega
   generalize hP:jP (L.take k)=P at *
   generalize hS1:lz w (L.take (k+1))=S1 at *
   refine⟨aw k,aV p,aG hp,?_⟩
   conv=>whnf
   have hget:(w.hosts.map dS)[p.host.toNat]? =some (dS h):=by rw[hke,Int.toNat_natCast,aM,hhk];rfl
   (refine⟨(by kernel_rfl:kL _=true),?_⟩;conv=>whnf)
   repeat' (first
    |(refine⟨h0,dS h,hget,?_⟩;conv=>whnf)
    |(refine⟨_,hput,?_⟩;conv=>whnf)
    |(refine⟨by kernel_rfl,?_⟩;conv=>whnf)
    |(refine⟨?_,?_⟩ <;> (conv=>whnf))
    |fail)
   all_goals
    cases hq:P.find? (λx=>x.zone.apex==p.zone.apex)with
    |some q =>
     rw[hq]at hcf;have hcf:cD p.zone.apex (bU P)=some (.agg (aT q.zone)):=hcf;have hhas:rj P p.zone.apex=true:=by unfold rj;rw[List.any_eq_true];exact⟨q,List.mem_of_find?_eq_some hq,by have h9:=List.find?_some hq;exact h9⟩
     rw[hcf]
     conv=>whnf
     refine⟨k+1,hlt,by(show L.length-(k+1)<L.length-k;omega),aj.keep ⟨ab,ab,ab,ab,ab,⟨an (by omega),rfl⟩,trivial⟩ ⟨ab,ab,ab,⟨?_,rfl⟩,⟨?_,rfl⟩,⟨?_,rfl⟩,ab,trivial⟩⟩
     . rw[hpk];unfold bY;rw[if_pos hhas];rfl
     . rw[hpk];unfold bY;rw[if_pos hhas];rfl
     . rw[hS1];rfl
    |none =>
     rw[hq]at hcf;have hcf:cD p.zone.apex (bU P)=none:=hcf;have hhas:rj P p.zone.apex=false:=by
      unfold rj;rw[List.any_eq_false];exact List.find?_eq_none.1 hq
     rw[hcf]
     conv=>whnf
     refine⟨by(show(P.map aV).length+1<=_);rw[ak];omega,by(show((P.map aV).length+1)*48<=_);rw[ak];omega,?_⟩
     conv=>whnf
     refine⟨k+1,hlt,by(show L.length-(k+1)<L.length-k;omega),aj.keep ⟨ab,ab,ab,ab,ab,⟨an (by omega),rfl⟩,trivial⟩ ⟨ab,ab,ab,⟨?_,rfl⟩,⟨?_,rfl⟩,⟨?_,rfl⟩,ab,trivial⟩⟩
     . rw[hpk];unfold bY;rw[if_neg (by rw[hhas];simp),List.map_append];rfl
     . rw[hpk];unfold bY;rw[if_neg (by rw[hhas];simp), <- wk hhas];rfl
     . rw[hS1];rfl
 . obtain rfl:k=L.length:=by simp at h1;omega
   rw[List.take_length];exact tk (bs:=[(18,.smap [])]) rfl rfl ⟨⟨rfl,rfl⟩,trivial⟩
end Go.Proofs.YtmaepddmaghpjaaGreatDoor
namespace NP
open NQ Go
def It(w:az)(m:List (Bs×List Int)):List D:=aZ (uc w)++[.kmap ((bU (eT w.zones)).map cE),.kmap (kC (vm w)),.kmap ((cB m).map cE)]
theorem tU(zs:List ai)(f:Nat)(s:Bs):iM zs (f+1) s=if s=[46]then none else if (aY zs (bu s)).isSome=true then some (bu s)else iM zs f (bu s):=rfl
theorem qP{A:Ans×Int}(h:¬(A.2=0/\(A.1.kind=1\/A.1.kind=2))):iq A=[]:=by unfold iq;rw[if_neg h]
def ia(l:List Signed):List Datum:=match (l.filter λs=>s.set.type==1).getLast? with|some s=>s.set.data|none=>[]
theorem gF{l:List Signed}{k:Nat}{s:Signed}(h:l[k]? =some s):ia (l.take (k+1))=if (s.set.type==1)=true then s.set.data else ia (l.take k):=by
 unfold ia;rw[bj h,List.filter_append];by_cases hb:(s.set.type==1)=true
 . rw[if_pos hb,List.filter_cons_of_pos (by exact hb)];simp
 . rw[if_neg hb,List.filter_cons_of_neg (by exact hb)];simp
theorem ll{A:Ans×Int}(h:A.2=0/\(A.1.kind=1\/A.1.kind=2)):iq A=ia A.1.sets:=by unfold iq;rw[if_pos h];rfl
end NP
namespace Go.Proofs.YtmaepddmaghpjaaGreatDoor
open NQ Go NP Go.RowKit
theorem BF(w:az)(m:List (Bs×List Int))(a:Bs)(n:Int):NQ.Fn cx 29 [.agg (It w m),.str a,.int .i64 n] (.d (.bool (bM w a n))) []:=by
 refine aA aO mixed Tryz.func29 (by kernel_rfl) rfl (ag rfl) ?_;conv=>whnf
 refine⟨_,zq a n _,?_⟩;rw[EK];cases bM w a n with
 |true =>
  conv=>whnf
  exact af rfl rfl
 |false =>
  conv=>whnf
  exact af rfl rfl
theorem Eg(w:az)(m:List (Bs×List Int))(a:Bs)(n:Int):NQ.Fn cx 28 [.int .i64 n,.ptr (It w m),.ptr [.str a]] (.d (.bool (!bM w a n))) []:=by
 refine aA aO mixed Tryz.func28 (by kernel_rfl) rfl (ag rfl) ?_;conv=>whnf
 (refine⟨_,_,BF w m a n,?_⟩;conv=>whnf)
 exact af rfl rfl
theorem Jb(l:List Int)(p:Int->Bool)(x y:D)(hn:l.length<=100000)(hf:∀s∈l,NQ.Fn cx 28 [.int .i64 s,x,y] (.d (.bool (p s))) []) :
 NQ.Fn cx 62 [.slice 1 (l.map ba),.fn 28 [] [x,y]] (.d (.int .i64 (match l.findIdx? p with|some k=>(k:Int)|none=> -1))) []:=by
 refine aA aO mixed Tryz.func62 (by kernel_rfl) rfl (ag rfl) ?_;conv=>whnf
 refine⟨Nat,λk=>⟨[(0,.d (.slice 1 (l.map ba))),(1,.d (.fn 28 [] [x,y])),(6,.d (.slice 1 (l.map ba))),(7,.d (.int .i64 ((l.map ba).length:Int))),(8,.d (.int .i64 k))],[]⟩,λk=>k<=l.length/\ ∀j y,j<k->l[j]? =some y->p y=false,λk=>l.length-k,
  ⟨0,⟨by omega,λj y h=>by omega⟩,aj.keep ⟨ab,ab,ab,ab,ab,trivial⟩ trivial⟩,λk hk=>?_⟩
 obtain⟨hk,hall⟩:=hk
 conv=>whnf
 refine ae (λh1=>?_) (λh1=>?_) <;> (rw[h1];conv=>whnf)
 . have hlt:k<l.length:=by simp at h1;omega
   obtain⟨s,hs⟩:∃s,l[k]? =some s:=⟨_,ah hlt⟩
   refine⟨aw k,ba s,aG hs,?_⟩
   conv=>whnf
   (refine⟨_,_,hf s (ao hs),?_⟩;conv=>whnf)
   refine ae (λh2=>?_) (λh2=>?_) <;> (rw[h2];conv=>whnf)
   . refine af rfl ?_;have:l.findIdx? p=some k:=by
      rw[List.findIdx?_eq_some_iff_getElem];obtain⟨g1,g2⟩:=ar.1 hs;refine⟨g1,by rw[g2];exact h2,λj hj=>?_⟩;have:=hall j (l[j]) hj (ah (by omega));rw[this];decide
     rw[this];rfl
   . refine⟨k+1,⟨hlt,λj y hj hy=>?_⟩,by(show l.length-(k+1)<l.length-k;omega),aj.keep ⟨ab,ab,ab,ab,⟨an (by omega),rfl⟩,trivial⟩ trivial⟩;rcases Nat.lt_succ_iff_lt_or_eq.1 hj with hj|rfl
     . exact hall j y hj hy
     . rw[hs]at hy;cases hy;exact h2
 . obtain rfl:k=l.length:=by simp at h1;omega
   refine af rfl ?_;have:l.findIdx? p=none:=by
    rw[List.findIdx?_eq_none_iff];intro x hx;obtain⟨i,hi⟩:=cj hx;exact hall i x (ar.1 hi).1 hi
   rw[this];rfl
theorem Ie(w:az)(m:List (Bs×List Int))(a:Bs)(l:List Int)(hl:l.length<=100000):NQ.Fn cx 27 [.slice 1 (l.map ba),.fn 28 [] [.ptr (It w m),.ptr [.str a]]] (.d (.bool (l.any λn=> !bM w a n))) []:=by
 refine aA aO mixed Tryz.func27 (by kernel_rfl) rfl (ag rfl) ?_;conv=>whnf
 (refine⟨_,_,Jb l (λn=> !bM w a n) _ _ hl (λs _=>Eg w m a s),?_⟩;conv=>whnf)
 refine af rfl ?_;show AV.d (D.bool (decide ((match l.findIdx? (λn=> !bM w a n)with|some k=>(k:Int)|none=> -1)>=0)))=_
 congr 2
 cases h:l.findIdx? (λn=> !bM w a n)with
 |some k =>
  obtain⟨h1,h2,_⟩:=List.findIdx?_eq_some_iff_getElem.1 h;rw[decide_eq_true (aw k)];exact(List.any_eq_true.2 ⟨_,List.getElem_mem h1,h2⟩).symm
 |none =>
  symm
  show(l.any λn=> !bM w a n)=false
  rw[List.any_eq_false];intro x hx;have:=List.findIdx?_eq_none_iff.1 h x hx;simpa using this
noncomputable def cxF:Cx:={cx with chg:=λg=>match Nat.beq g 23 with|true=>6|false=>(match Nat.beq g 26 with|true=>6|false=>(match Nat.beq g 22 with|true=>6|false=>cx.chg g))}
theorem tyF:bl cxF:=aO
theorem pL:cxF.P.follows .mixedOrders=true:=mixed
def hCA(w:az)(m:List (Bs×List Int)):List (Nat×Blk):=[(100004,.box (cP w 18)),(18,.smap (cB m))]
set_option maxHeartbeats 2000000 in
theorem EL(w:az)(m:List (Bs×List Int))(a:Bs)(hF:cA w)(hv:aN w=true)(ha:aq a=true):FnH cxF 23 [.agg (cP w 18),.d (.str a)] (hCA w m) (.tuple [.d (.slice 1 ((bx w.zones a).1.map aL)),.d (.bool (bx w.zones a).2)]) (hCA w m):=by
 have hg:mg w.zones:=λp hp=>⟨hF.few p hp,(bB hv p hp).1⟩
 have hT:∀{b:Bs} {x:Nat×ai},aY w.zones b=some x-> ∀s,NQ.Fn cx 25 [.agg (aT x.2.zone),.str s] (.d (.slice 1 ((bR x.2.zone s).map aL))) []:=λ{b x} h s=>by
  have h1:=(dG h).1;have h2:=cS (hg _ h1).1;exact nU x.2.zone s (by omega) λs hs=>by have:=(h2.2 s hs).1;omega
 have hfind:∀b,eL (.str b) ((bU (eT w.zones)).map cE)=some ((aY w.zones b).map λx=>D.agg (aT x.2.zone)):=λb=>by
  rw[pv,jV,xj hv];cases aY w.zones b <;> rfl
 refine mw (λ_=>[]) tyF pL Tryz.func23 (by kernel_rfl) rfl (ag rfl) (ag rfl) ?_
 conv=>whnf
 refine⟨Nat×Bs,λx=>⟨[(1,.d (.str a)),(2,.ptr 2 0),(6,.d (.str x.2))],(2,.box (cP w 18))::hCA w m⟩,λx=>aq x.2=true/\(bc x.2).length<x.1/\iM w.zones x.1 x.2=di w.zones a,λx=>x.1,
  ⟨((bc a).length+1,a),⟨ha,Nat.lt_succ_self _,rfl⟩,aj.keep ⟨ab,ab,ab,trivial⟩ ⟨ab,ab,ab,trivial⟩⟩,λ⟨f,b⟩ ⟨hbv,hf,hinv⟩=>?_⟩
 dsimp only at hbv hf hinv ⊢;obtain⟨f,rfl⟩:∃g,f=g+1:=⟨f-1,by omega⟩
 rw[tU]at hinv
 conv=>whnf
 refine ae (λh1=>?_) (λh1=>?_) <;> (rw[h1];conv=>whnf)
 . have hne:b≠[46]:=by simpa using h1
   rw[if_neg hne]at hinv;have fP:=nM b;rw[show dM b=(bu b,0) by unfold dM;rw[if_pos hbv,if_neg hne]]at fP
   (refine⟨_,_,fP,?_⟩;conv=>whnf)
   refine⟨_,hfind (bu b),?_⟩;cases hc:aY w.zones (bu b)with
   |some x =>
    rw[hc]at hinv;have hinv:some (bu b)=di w.zones a:=hinv
    conv=>whnf
    (refine⟨_,_,hT hc a,?_⟩;conv=>whnf)
    have e:bx w.zones a=(bR x.2.zone a,decide (0<(bR x.2.zone a).length)):=by
     unfold bx;rw[<- hinv];unfold fD;dsimp only;rw[hc]
    rw[e];have hd:decide ((((bR x.2.zone a).map aL).length:Int)>0)=decide (0<(bR x.2.zone a).length):=by rw[ak];congr 1;simp
    refine⟨[(4,.d (.slice 1 ((bR x.2.zone a).map aL))),(5,.d (.bool (decide (0<(bR x.2.zone a).length))))],aj.keep ⟨ab,⟨by rw[<- hd];rfl,rfl⟩,trivial⟩ ⟨ab,ab,trivial⟩,rfl⟩
   |none =>
    rw[hc]at hinv;have hinv:iM w.zones f (bu b)=di w.zones a:=hinv;obtain⟨_,_,h3⟩:=kD hbv (mc b) hne
    conv=>whnf
    exact⟨(f,bu b),⟨fO hbv,by dsimp only;omega,hinv⟩,by(show f<f+1;omega),aj.keep ⟨ab,ab,ab,trivial⟩ ⟨ab,ab,ab,trivial⟩⟩
 . have hb:b=[46]:=by simpa using h1
   rw[if_pos hb]at hinv;have hinv:none=di w.zones a:=hinv;refine ae (λh2=>?_) (λh2=>?_) <;> (rw[h2];conv=>whnf)
   . have hne:a≠[46]:=by simpa using h2
     have e:bx w.zones a=([],false):=by unfold bx;rw[<- hinv];dsimp only;rw[if_neg hne]
     rw[e];exact⟨[(4,.d (.slice 1 [])),(5,.d (.bool false))],(aj.pM 4 1 rfl).trans (aj.keep ⟨ab,ab,trivial⟩ ⟨ab,ab,trivial⟩),rfl⟩
   . have ha46:a=[46]:=by simpa using h2
     refine⟨_,hfind a,?_⟩;cases hc:aY w.zones a with
     |some x =>
      conv=>whnf
      (refine⟨_,_,hT hc a,?_⟩;conv=>whnf)
      have e:bx w.zones a=(bR x.2.zone a,true):=by unfold bx;rw[<- hinv];dsimp only;rw[if_pos ha46];unfold fD;rw[hc]
      rw[e];exact⟨[(4,.d (.slice 1 ((bR x.2.zone a).map aL))),(5,.d (.bool true))],aj.keep ⟨ab,ab,trivial⟩ ⟨ab,ab,trivial⟩,rfl⟩
     |none =>
      conv=>whnf
      (refine⟨_,_,nU ⟨[],[]⟩ a (by simp) (λs hs=>by cases hs),?_⟩;conv=>whnf)
      have e:bx w.zones a=([],true):=by unfold bx;rw[<- hinv];dsimp only;rw[if_pos ha46];unfold fD;rw[hc]
      rw[e];exact⟨[(4,.d (.slice 1 [])),(5,.d (.bool true))],aj.keep ⟨ab,ab,trivial⟩ ⟨ab,ab,trivial⟩,rfl⟩
def hCB(w:az)(m:List (Bs×List Int)):List (Nat×Blk):=[(100006,.box (cP w 18)),(18,.smap (cB m))]
set_option maxHeartbeats 2000000 in
theorem EM(w:az)(m:List (Bs×List Int))(a:Bs)(hF:cA w)(hv:aN w=true)(ha:aq a=true):FnH cxF 23 [.agg (cP w 18),.d (.str a)] (hCB w m) (.tuple [.d (.slice 1 ((bx w.zones a).1.map aL)),.d (.bool (bx w.zones a).2)]) (hCB w m):=by
 have hg:mg w.zones:=λp hp=>⟨hF.few p hp,(bB hv p hp).1⟩
 have hT:∀{b:Bs} {x:Nat×ai},aY w.zones b=some x-> ∀s,NQ.Fn cx 25 [.agg (aT x.2.zone),.str s] (.d (.slice 1 ((bR x.2.zone s).map aL))) []:=λ{b x} h s=>by
  have h1:=(dG h).1;have h2:=cS (hg _ h1).1;exact nU x.2.zone s (by omega) λs hs=>by have:=(h2.2 s hs).1;omega
 have hfind:∀b,eL (.str b) ((bU (eT w.zones)).map cE)=some ((aY w.zones b).map λx=>D.agg (aT x.2.zone)):=λb=>by
  rw[pv,jV,xj hv];cases aY w.zones b <;> rfl
 refine mw (λ_=>[]) tyF pL Tryz.func23 (by kernel_rfl) rfl (ag rfl) (ag rfl) ?_
 conv=>whnf
 refine⟨Nat×Bs,λx=>⟨[(1,.d (.str a)),(2,.ptr 2 0),(6,.d (.str x.2))],(2,.box (cP w 18))::hCB w m⟩,λx=>aq x.2=true/\(bc x.2).length<x.1/\iM w.zones x.1 x.2=di w.zones a,λx=>x.1,
  ⟨((bc a).length+1,a),⟨ha,Nat.lt_succ_self _,rfl⟩,aj.keep ⟨ab,ab,ab,trivial⟩ ⟨ab,ab,ab,trivial⟩⟩,λ⟨f,b⟩ ⟨hbv,hf,hinv⟩=>?_⟩
 dsimp only at hbv hf hinv ⊢;obtain⟨f,rfl⟩:∃g,f=g+1:=⟨f-1,by omega⟩
 rw[tU]at hinv
 conv=>whnf
 refine ae (λh1=>?_) (λh1=>?_) <;> (rw[h1];conv=>whnf)
 . have hne:b≠[46]:=by simpa using h1
   rw[if_neg hne]at hinv;have fP:=nM b;rw[show dM b=(bu b,0) by unfold dM;rw[if_pos hbv,if_neg hne]]at fP
   (refine⟨_,_,fP,?_⟩;conv=>whnf)
   refine⟨_,hfind (bu b),?_⟩;cases hc:aY w.zones (bu b)with
   |some x =>
    rw[hc]at hinv;have hinv:some (bu b)=di w.zones a:=hinv
    conv=>whnf
    (refine⟨_,_,hT hc a,?_⟩;conv=>whnf)
    have e:bx w.zones a=(bR x.2.zone a,decide (0<(bR x.2.zone a).length)):=by
     unfold bx;rw[<- hinv];unfold fD;dsimp only;rw[hc]
    rw[e];have hd:decide ((((bR x.2.zone a).map aL).length:Int)>0)=decide (0<(bR x.2.zone a).length):=by rw[ak];congr 1;simp
    refine⟨[(4,.d (.slice 1 ((bR x.2.zone a).map aL))),(5,.d (.bool (decide (0<(bR x.2.zone a).length))))],aj.keep ⟨ab,⟨by rw[<- hd];rfl,rfl⟩,trivial⟩ ⟨ab,ab,trivial⟩,rfl⟩
   |none =>
    rw[hc]at hinv;have hinv:iM w.zones f (bu b)=di w.zones a:=hinv;obtain⟨_,_,h3⟩:=kD hbv (mc b) hne
    conv=>whnf
    exact⟨(f,bu b),⟨fO hbv,by dsimp only;omega,hinv⟩,by(show f<f+1;omega),aj.keep ⟨ab,ab,ab,trivial⟩ ⟨ab,ab,ab,trivial⟩⟩
 . have hb:b=[46]:=by simpa using h1
   rw[if_pos hb]at hinv;have hinv:none=di w.zones a:=hinv;refine ae (λh2=>?_) (λh2=>?_) <;> (rw[h2];conv=>whnf)
   . have hne:a≠[46]:=by simpa using h2
     have e:bx w.zones a=([],false):=by unfold bx;rw[<- hinv];dsimp only;rw[if_neg hne]
     rw[e];exact⟨[(4,.d (.slice 1 [])),(5,.d (.bool false))],(aj.pM 4 1 rfl).trans (aj.keep ⟨ab,ab,trivial⟩ ⟨ab,ab,trivial⟩),rfl⟩
   . have ha46:a=[46]:=by simpa using h2
     refine⟨_,hfind a,?_⟩;cases hc:aY w.zones a with
     |some x =>
      conv=>whnf
      (refine⟨_,_,hT hc a,?_⟩;conv=>whnf)
      have e:bx w.zones a=(bR x.2.zone a,true):=by unfold bx;rw[<- hinv];dsimp only;rw[if_pos ha46];unfold fD;rw[hc]
      rw[e];exact⟨[(4,.d (.slice 1 ((bR x.2.zone a).map aL))),(5,.d (.bool true))],aj.keep ⟨ab,ab,trivial⟩ ⟨ab,ab,trivial⟩,rfl⟩
     |none =>
      conv=>whnf
      (refine⟨_,_,nU ⟨[],[]⟩ a (by simp) (λs hs=>by cases hs),?_⟩;conv=>whnf)
      have e:bx w.zones a=([],true):=by unfold bx;rw[<- hinv];dsimp only;rw[if_pos ha46];unfold fD;rw[hc]
      rw[e];exact⟨[(4,.d (.slice 1 [])),(5,.d (.bool true))],aj.keep ⟨ab,ab,trivial⟩ ⟨ab,ab,trivial⟩,rfl⟩
end Go.Proofs.YtmaepddmaghpjaaGreatDoor
namespace NP
open NQ Go
open Go.Proofs.YtmaepddmaghpjaaGreatDoor (ba)
theorem yu{w:az}{m:List (Bs×List Int)}{s:Bs}{x:List Int}(h:iN m s=some x):jU w m s=m:=by unfold jU;rw[h];rfl
theorem yv{w:az}{m:List (Bs×List Int)}{s:Bs}(h:iN m s=none):dB s (.slice 1 ((cM w s).map ba)) (cB m)=cB (jU w m s):=by
 rw[yw h];unfold jU;rw[h];rfl
end NP
namespace Go.Proofs.YtmaepddmaghpjaaGreatDoor
open NQ Go NP Go.RowKit
def Su:Nat->List Nat
 |13=>[55555]
 |_=>[]
set_option maxHeartbeats 2000000 in
theorem rI(w:az)(m:List (Bs×List Int))(s:Bs)(hF:cA w)(hv:aN w=true)(hm:kJ w m):FnH cxF 26 [.agg (cP w 18),.d (.str s)] (hCA w m) (.d (.slice 1 ((cM w s).map ba))) (hCA w (jU w m s)):=by
 have fT:=ye (uc w) ⟨s,1⟩ (GL hF hv);rw[Bb hv]at fT;have hsm:=nH hF ⟨s,1⟩;have hput:=yv (w:=w) (m:=m) (s:=s);have hhit:∀x,iN m s=some x->x=cM w s:=λx h=>AZ hm h
 have hadr:cM w s=(iq (dA w ⟨s,1⟩)).map (·.n):=rfl;generalize cM w s=AD at *
 generalize dA w ⟨s,1⟩=A at *
 obtain⟨A,e⟩:=A;dsimp only at fT hsm;have hlen:=hsm.len;refine mw Su tyF pL Tryz.func26 (by kernel_rfl) rfl (ag rfl) (ag rfl) ?_
 conv=>whnf
 rw[qU];cases hf:iN m s with
 |some x =>
  conv=>whnf
  rw[yu hf, <- hhit x hf];exact⟨[(4,.d (.slice 1 (x.map ba)))],aj.keep ⟨ab,trivial⟩ ⟨ab,ab,trivial⟩,rfl⟩
 |none =>
  conv=>whnf
  (refine⟨_,_,fT,?_⟩;conv=>whnf)
  have none0:¬(e=0/\(A.kind=1\/A.kind=2))->AD=[]:=λh=>by rw[hadr,qP h];rfl
  cases h1:(e==0)with
  |false =>
   have hAD:=none0 (λh=>by rw[h.1]at h1;cases h1);subst hAD
   conv=>whnf
   refine⟨⟨[(1,.d (.str s)),(2,.ptr 2 0),(7,.d (.slice 1 []))],[(2,.box (cP w 18)),(100004,.box (cP w 18)),(18,.smap (cB m))]⟩,(aj.pM 7 1 rfl).trans (aj.keep ⟨ab,ab,ab,trivial⟩ ⟨ab,ab,ab,trivial⟩),?_⟩
   conv=>whnf
   exact⟨[(4,.d (.slice 1 []))],aj.keep ⟨ab,trivial⟩ ⟨ab,⟨congrArg (λm=>some (Blk.smap m)) (hput hf),rfl⟩,trivial⟩,rfl⟩
  |true =>
   have he:e=0:=by simpa using h1
   conv=>whnf
   cases h2:(A.kind==1)with
   |true =>
    have hk2:A.kind=1\/A.kind=2:= .inl (by simpa using h2)
    conv=>whnf
    refine⟨Nat,λk=>⟨[(1,.d (.str s)),(2,.ptr 2 0),(7,.d (.slice 1 (((ia (A.sets.take k)).map (·.n)).map ba))),(42,.d (.slice 5 (A.sets.map ax))),(43,.d (.int .i64 ((A.sets.map ax).length:Int))),(44,.d (.int .i64 k))],[(2,.box (cP w 18)),(100004,.box (cP w 18)),(18,.smap (cB m))]⟩,λk=>k<=A.sets.length,λk=>A.sets.length-k,
     ⟨0,Nat.zero_le _,(aj.pM 7 1 rfl).trans (aj.keep ⟨ab,ab,ab,ab,ab,ab,trivial⟩ ⟨ab,ab,ab,trivial⟩)⟩,λk hk=>?_⟩
    dsimp only at hk ⊢
    conv=>whnf
    refine ae (λh4=>?_) (λh4=>?_) <;> (rw[h4];conv=>whnf)
    . have hlt:k<A.sets.length:=by simpa using h4
      obtain⟨x,hx⟩:∃x,A.sets[k]? =some x:=⟨_,ah hlt⟩
      refine⟨aw k,ax x,aG hx,?_⟩
      conv=>whnf
      refine ae (λh5=>?_) (λh5=>?_) <;> (rw[h5];conv=>whnf)
      . (refine⟨_,_,mC x.set (hsm.small x (ao hx)).1,?_⟩;conv=>whnf)
        refine⟨k+1,hlt,by(show A.sets.length-(k+1)<A.sets.length-k;omega),aj.keep ⟨ab,ab,⟨?_,rfl⟩,ab,ab,⟨an (by omega),rfl⟩,trivial⟩ ⟨ab,ab,ab,trivial⟩⟩;rw[gF hx,if_pos h5];rfl
      . refine⟨k+1,hlt,by(show A.sets.length-(k+1)<A.sets.length-k;omega),aj.keep ⟨ab,ab,⟨?_,rfl⟩,ab,ab,⟨an (by omega),rfl⟩,trivial⟩ ⟨ab,ab,ab,trivial⟩⟩;rw[gF hx,if_neg (by rw[show(x.set.type==1)=false from h5];simp)];rfl
    . obtain rfl:k=A.sets.length:=by simp at h4;omega
      rw[List.take_length];have hAD:AD=(ia A.sets).map (·.n):=by rw[hadr,ll ⟨he,hk2⟩]
      rw[<- hAD];refine⟨⟨[(1,.d (.str s)),(2,.ptr 2 0),(7,.d (.slice 1 (AD.map ba)))],[(2,.box (cP w 18)),(100004,.box (cP w 18)),(18,.smap (cB m))]⟩,aj.keep ⟨ab,ab,ab,trivial⟩ ⟨ab,ab,ab,trivial⟩,?_⟩
      conv=>whnf
      exact⟨[(4,.d (.slice 1 (AD.map ba)))],aj.keep ⟨ab,trivial⟩ ⟨ab,⟨congrArg (λm=>some (Blk.smap m)) (hput hf),rfl⟩,trivial⟩,rfl⟩
   |false =>
    conv=>whnf
    cases h3:(A.kind==2)with
    |true =>
     have hk2:A.kind=1\/A.kind=2:= .inr (by simpa using h3)
     conv=>whnf
     refine⟨Nat,λk=>⟨[(1,.d (.str s)),(2,.ptr 2 0),(7,.d (.slice 1 (((ia (A.sets.take k)).map (·.n)).map ba))),(42,.d (.slice 5 (A.sets.map ax))),(43,.d (.int .i64 ((A.sets.map ax).length:Int))),(44,.d (.int .i64 k))],[(2,.box (cP w 18)),(100004,.box (cP w 18)),(18,.smap (cB m))]⟩,λk=>k<=A.sets.length,λk=>A.sets.length-k,
      ⟨0,Nat.zero_le _,(aj.pM 7 1 rfl).trans (aj.keep ⟨ab,ab,ab,ab,ab,ab,trivial⟩ ⟨ab,ab,ab,trivial⟩)⟩,λk hk=>?_⟩
     dsimp only at hk ⊢
     conv=>whnf
     refine ae (λh4=>?_) (λh4=>?_) <;> (rw[h4];conv=>whnf)
     . have hlt:k<A.sets.length:=by simpa using h4
       obtain⟨x,hx⟩:∃x,A.sets[k]? =some x:=⟨_,ah hlt⟩
       refine⟨aw k,ax x,aG hx,?_⟩
       conv=>whnf
       refine ae (λh5=>?_) (λh5=>?_) <;> (rw[h5];conv=>whnf)
       . (refine⟨_,_,mC x.set (hsm.small x (ao hx)).1,?_⟩;conv=>whnf)
         refine⟨k+1,hlt,by(show A.sets.length-(k+1)<A.sets.length-k;omega),aj.keep ⟨ab,ab,⟨?_,rfl⟩,ab,ab,⟨an (by omega),rfl⟩,trivial⟩ ⟨ab,ab,ab,trivial⟩⟩;rw[gF hx,if_pos h5];rfl
       . refine⟨k+1,hlt,by(show A.sets.length-(k+1)<A.sets.length-k;omega),aj.keep ⟨ab,ab,⟨?_,rfl⟩,ab,ab,⟨an (by omega),rfl⟩,trivial⟩ ⟨ab,ab,ab,trivial⟩⟩;rw[gF hx,if_neg (by rw[show(x.set.type==1)=false from h5];simp)];rfl
     . obtain rfl:k=A.sets.length:=by simp at h4;omega
       rw[List.take_length];have hAD:AD=(ia A.sets).map (·.n):=by rw[hadr,ll ⟨he,hk2⟩]
       rw[<- hAD];refine⟨⟨[(1,.d (.str s)),(2,.ptr 2 0),(7,.d (.slice 1 (AD.map ba)))],[(2,.box (cP w 18)),(100004,.box (cP w 18)),(18,.smap (cB m))]⟩,aj.keep ⟨ab,ab,ab,trivial⟩ ⟨ab,ab,ab,trivial⟩,?_⟩
       conv=>whnf
       exact⟨[(4,.d (.slice 1 (AD.map ba)))],aj.keep ⟨ab,trivial⟩ ⟨ab,⟨congrArg (λm=>some (Blk.smap m)) (hput hf),rfl⟩,trivial⟩,rfl⟩
    |false =>
     have hAD:=none0 (λh=>h.2.elim (λh=>by rw[h]at h2;cases h2) (λh=>by rw[h]at h3;cases h3));subst hAD
     conv=>whnf
     refine⟨⟨[(1,.d (.str s)),(2,.ptr 2 0),(7,.d (.slice 1 []))],[(2,.box (cP w 18)),(100004,.box (cP w 18)),(18,.smap (cB m))]⟩,(aj.pM 7 1 rfl).trans (aj.keep ⟨ab,ab,ab,trivial⟩ ⟨ab,ab,ab,trivial⟩),?_⟩
     conv=>whnf
     exact⟨[(4,.d (.slice 1 []))],aj.keep ⟨ab,trivial⟩ ⟨ab,⟨congrArg (λm=>some (Blk.smap m)) (hput hf),rfl⟩,trivial⟩,rfl⟩
set_option maxHeartbeats 2000000 in
theorem zR(w:az)(m:List (Bs×List Int))(s:Bs)(hF:cA w)(hv:aN w=true)(hm:kJ w m):FnH cxF 26 [.agg (cP w 18),.d (.str s)] (hCB w m) (.d (.slice 1 ((cM w s).map ba))) (hCB w (jU w m s)):=by
 have fT:=ye (uc w) ⟨s,1⟩ (GL hF hv);rw[Bb hv]at fT;have hsm:=nH hF ⟨s,1⟩;have hput:=yv (w:=w) (m:=m) (s:=s);have hhit:∀x,iN m s=some x->x=cM w s:=λx h=>AZ hm h
 have hadr:cM w s=(iq (dA w ⟨s,1⟩)).map (·.n):=rfl;generalize cM w s=AD at *
 generalize dA w ⟨s,1⟩=A at *
 obtain⟨A,e⟩:=A;dsimp only at fT hsm;have hlen:=hsm.len;refine mw Su tyF pL Tryz.func26 (by kernel_rfl) rfl (ag rfl) (ag rfl) ?_
 conv=>whnf
 rw[qU];cases hf:iN m s with
 |some x =>
  conv=>whnf
  rw[yu hf, <- hhit x hf];exact⟨[(4,.d (.slice 1 (x.map ba)))],aj.keep ⟨ab,trivial⟩ ⟨ab,ab,trivial⟩,rfl⟩
 |none =>
  conv=>whnf
  (refine⟨_,_,fT,?_⟩;conv=>whnf)
  have none0:¬(e=0/\(A.kind=1\/A.kind=2))->AD=[]:=λh=>by rw[hadr,qP h];rfl
  cases h1:(e==0)with
  |false =>
   have hAD:=none0 (λh=>by rw[h.1]at h1;cases h1);subst hAD
   conv=>whnf
   refine⟨⟨[(1,.d (.str s)),(2,.ptr 2 0),(7,.d (.slice 1 []))],[(2,.box (cP w 18)),(100006,.box (cP w 18)),(18,.smap (cB m))]⟩,(aj.pM 7 1 rfl).trans (aj.keep ⟨ab,ab,ab,trivial⟩ ⟨ab,ab,ab,trivial⟩),?_⟩
   conv=>whnf
   exact⟨[(4,.d (.slice 1 []))],aj.keep ⟨ab,trivial⟩ ⟨ab,⟨congrArg (λm=>some (Blk.smap m)) (hput hf),rfl⟩,trivial⟩,rfl⟩
  |true =>
   have he:e=0:=by simpa using h1
   conv=>whnf
   cases h2:(A.kind==1)with
   |true =>
    have hk2:A.kind=1\/A.kind=2:= .inl (by simpa using h2)
    conv=>whnf
    refine⟨Nat,λk=>⟨[(1,.d (.str s)),(2,.ptr 2 0),(7,.d (.slice 1 (((ia (A.sets.take k)).map (·.n)).map ba))),(42,.d (.slice 5 (A.sets.map ax))),(43,.d (.int .i64 ((A.sets.map ax).length:Int))),(44,.d (.int .i64 k))],[(2,.box (cP w 18)),(100006,.box (cP w 18)),(18,.smap (cB m))]⟩,λk=>k<=A.sets.length,λk=>A.sets.length-k,
     ⟨0,Nat.zero_le _,(aj.pM 7 1 rfl).trans (aj.keep ⟨ab,ab,ab,ab,ab,ab,trivial⟩ ⟨ab,ab,ab,trivial⟩)⟩,λk hk=>?_⟩
    dsimp only at hk ⊢
    conv=>whnf
    refine ae (λh4=>?_) (λh4=>?_) <;> (rw[h4];conv=>whnf)
    . have hlt:k<A.sets.length:=by simpa using h4
      obtain⟨x,hx⟩:∃x,A.sets[k]? =some x:=⟨_,ah hlt⟩
      refine⟨aw k,ax x,aG hx,?_⟩
      conv=>whnf
      refine ae (λh5=>?_) (λh5=>?_) <;> (rw[h5];conv=>whnf)
      . (refine⟨_,_,mC x.set (hsm.small x (ao hx)).1,?_⟩;conv=>whnf)
        refine⟨k+1,hlt,by(show A.sets.length-(k+1)<A.sets.length-k;omega),aj.keep ⟨ab,ab,⟨?_,rfl⟩,ab,ab,⟨an (by omega),rfl⟩,trivial⟩ ⟨ab,ab,ab,trivial⟩⟩;rw[gF hx,if_pos h5];rfl
      . refine⟨k+1,hlt,by(show A.sets.length-(k+1)<A.sets.length-k;omega),aj.keep ⟨ab,ab,⟨?_,rfl⟩,ab,ab,⟨an (by omega),rfl⟩,trivial⟩ ⟨ab,ab,ab,trivial⟩⟩;rw[gF hx,if_neg (by rw[show(x.set.type==1)=false from h5];simp)];rfl
    . obtain rfl:k=A.sets.length:=by simp at h4;omega
      rw[List.take_length];have hAD:AD=(ia A.sets).map (·.n):=by rw[hadr,ll ⟨he,hk2⟩]
      rw[<- hAD];refine⟨⟨[(1,.d (.str s)),(2,.ptr 2 0),(7,.d (.slice 1 (AD.map ba)))],[(2,.box (cP w 18)),(100006,.box (cP w 18)),(18,.smap (cB m))]⟩,aj.keep ⟨ab,ab,ab,trivial⟩ ⟨ab,ab,ab,trivial⟩,?_⟩
      conv=>whnf
      exact⟨[(4,.d (.slice 1 (AD.map ba)))],aj.keep ⟨ab,trivial⟩ ⟨ab,⟨congrArg (λm=>some (Blk.smap m)) (hput hf),rfl⟩,trivial⟩,rfl⟩
   |false =>
    conv=>whnf
    cases h3:(A.kind==2)with
    |true =>
     have hk2:A.kind=1\/A.kind=2:= .inr (by simpa using h3)
     conv=>whnf
     refine⟨Nat,λk=>⟨[(1,.d (.str s)),(2,.ptr 2 0),(7,.d (.slice 1 (((ia (A.sets.take k)).map (·.n)).map ba))),(42,.d (.slice 5 (A.sets.map ax))),(43,.d (.int .i64 ((A.sets.map ax).length:Int))),(44,.d (.int .i64 k))],[(2,.box (cP w 18)),(100006,.box (cP w 18)),(18,.smap (cB m))]⟩,λk=>k<=A.sets.length,λk=>A.sets.length-k,
      ⟨0,Nat.zero_le _,(aj.pM 7 1 rfl).trans (aj.keep ⟨ab,ab,ab,ab,ab,ab,trivial⟩ ⟨ab,ab,ab,trivial⟩)⟩,λk hk=>?_⟩
     dsimp only at hk ⊢
     conv=>whnf
     refine ae (λh4=>?_) (λh4=>?_) <;> (rw[h4];conv=>whnf)
     . have hlt:k<A.sets.length:=by simpa using h4
       obtain⟨x,hx⟩:∃x,A.sets[k]? =some x:=⟨_,ah hlt⟩
       refine⟨aw k,ax x,aG hx,?_⟩
       conv=>whnf
       refine ae (λh5=>?_) (λh5=>?_) <;> (rw[h5];conv=>whnf)
       . (refine⟨_,_,mC x.set (hsm.small x (ao hx)).1,?_⟩;conv=>whnf)
         refine⟨k+1,hlt,by(show A.sets.length-(k+1)<A.sets.length-k;omega),aj.keep ⟨ab,ab,⟨?_,rfl⟩,ab,ab,⟨an (by omega),rfl⟩,trivial⟩ ⟨ab,ab,ab,trivial⟩⟩;rw[gF hx,if_pos h5];rfl
       . refine⟨k+1,hlt,by(show A.sets.length-(k+1)<A.sets.length-k;omega),aj.keep ⟨ab,ab,⟨?_,rfl⟩,ab,ab,⟨an (by omega),rfl⟩,trivial⟩ ⟨ab,ab,ab,trivial⟩⟩;rw[gF hx,if_neg (by rw[show(x.set.type==1)=false from h5];simp)];rfl
     . obtain rfl:k=A.sets.length:=by simp at h4;omega
       rw[List.take_length];have hAD:AD=(ia A.sets).map (·.n):=by rw[hadr,ll ⟨he,hk2⟩]
       rw[<- hAD];refine⟨⟨[(1,.d (.str s)),(2,.ptr 2 0),(7,.d (.slice 1 (AD.map ba)))],[(2,.box (cP w 18)),(100006,.box (cP w 18)),(18,.smap (cB m))]⟩,aj.keep ⟨ab,ab,ab,trivial⟩ ⟨ab,ab,ab,trivial⟩,?_⟩
       conv=>whnf
       exact⟨[(4,.d (.slice 1 (AD.map ba)))],aj.keep ⟨ab,trivial⟩ ⟨ab,⟨congrArg (λm=>some (Blk.smap m)) (hput hf),rfl⟩,trivial⟩,rfl⟩
    |false =>
     have hAD:=none0 (λh=>h.2.elim (λh=>by rw[h]at h2;cases h2) (λh=>by rw[h]at h3;cases h3));subst hAD
     conv=>whnf
     refine⟨⟨[(1,.d (.str s)),(2,.ptr 2 0),(7,.d (.slice 1 []))],[(2,.box (cP w 18)),(100006,.box (cP w 18)),(18,.smap (cB m))]⟩,(aj.pM 7 1 rfl).trans (aj.keep ⟨ab,ab,ab,trivial⟩ ⟨ab,ab,ab,trivial⟩),?_⟩
     conv=>whnf
     exact⟨[(4,.d (.slice 1 []))],aj.keep ⟨ab,trivial⟩ ⟨ab,⟨congrArg (λm=>some (Blk.smap m)) (hput hf),rfl⟩,trivial⟩,rfl⟩
end Go.Proofs.YtmaepddmaghpjaaGreatDoor
namespace NP
open NQ Go
def AN(z:aF):Nat->Bs->Bool
 |0,_=>false
 |f+1,n=>if n=z.apex then false else if dJ z.apex z.sets n=true then true else AN z f (bu n)
def xi(z:aF)(s:Bs):Bool:=AN z ((bc s).length+1) s
def eJ(f:Signed->Bool)(l:List Signed):List (List D):=(l.filter f).map λs=>[.agg (mG s.set)]
def eC(z:aF)(s:Signed):Bool:=(s.set.type==1)&&xi z s.set.name
def sM(z:aF):D:= .ptr [.kmap ((gU z.apex z.sets []).map cE)]
theorem BQ(z:aF)(f:Nat)(n:Bs):AN z (f+1) n=if n=z.apex then false else if dJ z.apex z.sets n=true then true else AN z f (bu n):=rfl
theorem JT(a:Bs)(m:List (Bs×D)):eL (.str a) (m.map cE)=some (cD a m):=by
 induction m with
 |nil=>rfl
 |cons p t ih =>
  obtain⟨b,v⟩:=p;show(match eG (.str a) [.tuple [.str b]]with|some true=>_|some false=>eL (.str a) (t.map cE)|none=>none)=(some (if a=b then some v else cD a t))
  have:eG (.str a) [.tuple [.str b]]=some (a==b):=rfl;rw[this];by_cases h:a=b
  . subst h;simp
  . have:(a==b)=false:=by simp[h]
    rw[this,if_neg h];exact ih
end NP
namespace Go.Proofs.YtmaepddmaghpjaaGreatDoor
open NQ Go NP Go.RowKit
def Ij(z:aF):D:= .fn 63 [] [.ptr (aT z),sM z]
theorem QV(z:aF)(hz:z.sets.length<=100000):NQ.Fn cx 30 [.agg (aT z)] (.d (.fn 64 [] [.ptr (aT z),.ptr [Ij z]])) []:=by
 refine cC (fun|_=>[]) aO mixed Tryz.func30 (by kernel_rfl) rfl (ag rfl) ?_
 conv=>whnf
 refine⟨Nat,λk=>⟨[(1,.ptr 1 0),(3,.ptr 3 0),(9,.d (.slice 5 (z.sets.map ax))),(10,.d (.int .i64 ((z.sets.map ax).length:Int))),(11,.d (.int .i64 k))],[(1,.box ((aT z).map .d)),(3,.box [.omap 7]),(7,.smap (gU z.apex (z.sets.take k) []))]⟩,λk=>k<=z.sets.length,λk=>z.sets.length-k,
  ⟨0,Nat.zero_le _,aj.keep ⟨ab,ab,ab,ab,ab,trivial⟩ ⟨ab,ab,ab,trivial⟩⟩,λk hk=>?_⟩
 dsimp only at hk ⊢
 conv=>whnf
 refine ae (λh1=>?_) (λh1=>?_) <;> (rw[h1];conv=>whnf)
 . have hlt:k<z.sets.length:=by simpa using h1
   obtain⟨s,hs⟩:∃s,z.sets[k]? =some s:=⟨_,ah hlt⟩
   have hm:=qY z.apex s (z.sets.take k) [];rw[<- bj hs]at hm;refine⟨aw k,ax s,aG hs,?_⟩
   conv=>whnf
   refine ae (λh2=>?_) (λh2=>?_) <;> (rw[h2];conv=>whnf)
   . cases h3:(s.set.name==z.apex)with
     |false =>
      have hm:=hm.trans (if_pos (by unfold db;rw[show(s.set.type==2)=true from h2,h3];rfl))
      conv=>whnf
      exact⟨k+1,hlt,by(show z.sets.length-(k+1)<z.sets.length-k;omega),aj.keep ⟨ab,ab,ab,ab,⟨an (by omega),rfl⟩,trivial⟩ ⟨ab,ab,⟨by rw[hm];rfl,rfl⟩,trivial⟩⟩
     |true =>
      have hm:=hm.trans (if_neg (by unfold db;rw[h3,Bool.and_comm];simp))
      conv=>whnf
      exact⟨k+1,hlt,by(show z.sets.length-(k+1)<z.sets.length-k;omega),aj.keep ⟨ab,ab,ab,ab,⟨an (by omega),rfl⟩,trivial⟩ ⟨ab,ab,⟨by rw[hm];rfl,rfl⟩,trivial⟩⟩
   . have hm:=hm.trans (if_neg (by unfold db;rw[show(s.set.type==2)=false from h2];simp));exact⟨k+1,hlt,by(show z.sets.length-(k+1)<z.sets.length-k;omega),aj.keep ⟨ab,ab,ab,ab,⟨an (by omega),rfl⟩,trivial⟩ ⟨ab,ab,⟨by rw[hm];rfl,rfl⟩,trivial⟩⟩
 . obtain rfl:k=z.sets.length:=by simp at h1;omega
   rw[List.take_length];exact af rfl rfl
set_option maxHeartbeats 1000000 in
theorem Ik(z:aF)(s:Bs)(hs:aq s=true)(hu:aD s z.apex=true):NQ.Fn cx 63 [.str s,.ptr (aT z),sM z] (.d (.bool (xi z s))) []:=by
 have hfind:∀b,eL (.str b) ((gU z.apex z.sets []).map cE)=some (if dJ z.apex z.sets b=true then some (.bool true)else none):=λb=>by
  rw[JT,qX];rfl
 refine aA aO mixed Tryz.func63 (by kernel_rfl) rfl (ag rfl) ?_;conv=>whnf
 refine⟨Nat×Bs,λx=>⟨[(0,.d (.str x.2)),(1,.d (.ptr (aT z))),(2,.d (sM z))],[]⟩,λx=>aq x.2=true/\aD x.2 z.apex=true/\(bc x.2).length<x.1/\AN z x.1 x.2=xi z s,λx=>x.1,
  ⟨((bc s).length+1,s),⟨hs,hu,Nat.lt_succ_self _,rfl⟩,aj.keep ⟨ab,ab,ab,trivial⟩ trivial⟩,λ⟨f,b⟩ ⟨hb,hub,hf,hinv⟩=>?_⟩
 dsimp only at hb hub hf hinv ⊢;obtain⟨f,rfl⟩:∃g,f=g+1:=⟨f-1,by omega⟩
 rw[BQ]at hinv
 conv=>whnf
 cases h1:(b==z.apex)with
 |true =>
  have he:b=z.apex:=by simpa using h1
  rw[if_pos he]at hinv
  conv=>whnf
  rw[h1]
  conv=>whnf
  rw[<- hinv];exact af rfl rfl
 |false =>
  have he:b≠z.apex:=by simpa using h1
  rw[if_neg he]at hinv
  conv=>whnf
  refine⟨_,hfind b,?_⟩;cases hc:dJ z.apex z.sets b with
  |true =>
   rw[hc]at hinv
   conv=>whnf
   rw[h1]
   conv=>whnf
   rw[<- hinv];exact af rfl rfl
  |false =>
   rw[hc]at hinv
   conv=>whnf
   obtain⟨hne,h2,h3⟩:=kD hb hub he;have fP:=nM b;rw[show dM b=(bu b,0) by unfold dM;rw[if_pos hb,if_neg hne]]at fP
   (refine⟨_,_,fP,?_⟩;conv=>whnf)
   exact⟨(f,bu b),⟨fO hb,h2,by dsimp only;omega,hinv⟩,by(show f<f+1;omega),aj.keep ⟨ab,ab,ab,trivial⟩ trivial⟩
theorem ri{f:Signed->Bool}{l:List Signed}{k:Nat}{s:Signed}(h:l[k]? =some s):eJ f (l.take (k+1))=eJ f (l.take k)++(if f s=true then[[.agg (mG s.set)]]else[]):=by
 unfold eJ;rw[bj h,List.filter_append,List.map_append];by_cases hb:f s=true
 . rw[if_pos hb,List.filter_cons_of_pos hb];rfl
 . rw[if_neg hb,List.filter_cons_of_neg hb];rfl
theorem Lu{f:Signed->Bool}{l:List Signed}{k:Nat}{s:Signed}(h:l[k]? =some s)(hf:f s=true):(eJ f l)[(eJ f (l.take k)).length]? =some [.agg (mG s.set)]:=by
 have e:eJ f l=eJ f (l.take (k+1))++eJ f (l.drop (k+1)):=by
  unfold eJ;rw[<- List.map_append, <- List.filter_append,List.take_append_drop]
 rw[e,ri h,if_pos hf];simp
set_option maxHeartbeats 1000000 in
theorem Lw(z:aF)(hv:aW z=true)(hz:z.sets.length<=100000) :
 Kt cx 64 [.ptr (aT z),.ptr [Ij z]] (eJ (eC z) z.sets):=by
 have hb:∀s∈z.sets,NQ.Fn cx 63 [.str s.set.name,.ptr (aT z),sM z] (.d (.bool (xi z s.set.name))) []:=λs hs=>by
  have V:=dt.1 hv;exact Ik z s.set.name (V.ord.name s hs) (by have:=V.ord.under s hs;unfold bq at this;rw[if_pos ⟨V.ord.name s hs,V.ord.apex⟩]at this;exact this)
 refine rl (fun|3=>[77777]|_=>[]) aO mixed Tryz.func64 (by kernel_rfl) rfl rfl (ag rfl) ?_
 conv=>whnf
 refine⟨rfl,?_⟩
 conv=>whnf
 refine⟨Nat,λk=>(((eJ (eC z) (z.sets.take k)).length,true),⟨[(1,.d (.ptr (aT z))),(2,.d (.ptr [Ij z])),(7,.d (.slice 5 (z.sets.map ax))),(8,.d (.int .i64 ((z.sets.map ax).length:Int))),(9,.d (.int .i64 k))],[]⟩),
  λk=>k<=z.sets.length,λk=>z.sets.length-k,⟨0,Nat.zero_le _,by simp[eJ],aj.keep ⟨ab,ab,ab,ab,ab,trivial⟩ trivial⟩,λk hk=>?_⟩
 conv=>whnf
 refine⟨rfl,?_⟩
 conv=>whnf
 refine ae (λh1=>?_) (λh1=>?_) <;> (rw[h1];conv=>whnf)
 . have hlt:k<z.sets.length:=by simpa using h1
   obtain⟨s,hs⟩:∃s,z.sets[k]? =some s:=⟨_,ah hlt⟩
   have again:eC z s=false->((eJ (eC z) (List.take (k+1) z.sets)).length,true)=((eJ (eC z) (List.take k z.sets)).length,true):=λe=>by
    rw[ri hs,if_neg (by rw[e];simp)];simp
   have hcall:=hb s (ao hs);refine⟨rfl,?_⟩
   conv=>whnf
   refine⟨aw k,ax s,aG hs,?_⟩
   conv=>whnf
   repeat' (first|(refine⟨rfl,?_⟩;conv=>whnf)|fail)
   cases h2:(s.set.type==1)with
   |false =>
    conv=>whnf
    have e:eC z s=false:=by unfold eC;rw[h2];rfl
    repeat' (first|(refine⟨rfl,?_⟩;conv=>whnf)|fail)
    exact⟨k+1,by show k+1<=_;omega,by show z.sets.length-(k+1)<z.sets.length-k;omega,again e,aj.keep ⟨ab,ab,ab,ab,⟨an (by omega),rfl⟩,trivial⟩ trivial⟩
   |true =>
    conv=>whnf
    repeat' (first|(refine⟨rfl,?_⟩;conv=>whnf)|fail)
    (refine⟨_,_,hcall,?_⟩;conv=>whnf)
    cases h3:xi z s.set.name with
    |false =>
     have e:eC z s=false:=by unfold eC;rw[h2,h3];rfl
     conv=>whnf
     repeat' (first|(refine⟨rfl,?_⟩;conv=>whnf)|fail)
     exact⟨k+1,by show k+1<=_;omega,by show z.sets.length-(k+1)<z.sets.length-k;omega,again e,aj.keep ⟨ab,ab,ab,ab,⟨an (by omega),rfl⟩,trivial⟩ trivial⟩
    |true =>
     have e:eC z s=true:=by unfold eC;rw[h2,h3];rfl
     conv=>whnf
     repeat' (first|(refine⟨rfl,?_⟩;conv=>whnf)|fail)
     refine⟨_,_,⟨Lu hs e,rfl⟩,rfl,λb=>?_⟩
     conv=>whnf
     cases b with
     |true =>
      repeat' (first|(refine⟨rfl,?_⟩;conv=>whnf)|fail)
      refine⟨k+1,by show k+1<=_;omega,by show z.sets.length-(k+1)<z.sets.length-k;omega,?_,aj.keep ⟨ab,ab,ab,ab,⟨an (by omega),rfl⟩,trivial⟩ trivial⟩;show((eJ (eC z) (List.take (k+1) z.sets)).length,true)=((eJ (eC z) (List.take k z.sets)).length+1,true)
      rw[ri hs,if_pos e];simp
     |false =>
      repeat' (first|(refine⟨rfl,?_⟩;conv=>whnf)|fail)
      exact⟨trivial,λh=>by cases h⟩
 . refine⟨trivial,λ_=>?_⟩;obtain rfl:k=z.sets.length:=by simp at h1;omega
   simp
end Go.Proofs.YtmaepddmaghpjaaGreatDoor
namespace NP
open NQ Go
theorem Iz{z:aF}{n:Bs}(h:n≠z.apex):dJ z.apex z.sets n=cJ z.sets ⟨n,2⟩:=by
 unfold dJ cJ
 congr 1
 funext s
 unfold db;rw[Bool.eq_iff_iff,lu];simp only[Signed.place,aR.place,ay,beq_iff_eq,Bool.not_eq_true',beq_eq_false_iff_ne,Prod.mk.injEq];constructor
 . rintro⟨⟨h1,_⟩,h3⟩;exact⟨h3,h1⟩
 . rintro⟨h1,h2⟩;exact⟨⟨h2,λe=>h (h1.symm.trans e)⟩,h1⟩
theorem MN(z:aF):∀(f:Nat) (n:Bs),AN z f n=(lC z f n).isSome
 |0,_=>rfl
 |f+1,n=>by
  rw[BQ];show _=(if n=z.apex then none else if cJ z.sets ⟨n,2⟩=true then some n else lC z f (bu n)).isSome
  by_cases h:n=z.apex
  . rw[if_pos h,if_pos h];rfl
  . rw[if_neg h,if_neg h,Iz h];split
    . rfl
    . exact MN z f _
theorem QC{z:aF}(hv:aW z=true){n:Bs}(hn:aq n=true)(hu:aD n z.apex=true):xi z n= !(bT z n==[]):=by
 have ha:=(bA hv).apex;have hu' :(bq n z.apex).1=true:=by unfold bq;rw[if_pos ⟨hn,ha⟩];exact hu
 have h:=Ae hv hn hu;unfold xi;rw[MN];show(qZ z n).isSome=_
 unfold eP at h;rw[if_neg (by simp[hv,hn]),if_neg (by simp[hu'])]at h;cases hc:qZ z n with
 |none=>rw[hc]at h;simp only[Prod.mk.injEq]at h;exact h.2.1
 |some c=>rw[hc]at h;simp only[Prod.mk.injEq]at h;exact h.2.1
theorem QW{z:aF}(hv:aW z=true){s:Signed}(hs:s∈z.sets):eC z s=gq z s:=by
 have V:=dt.1 hv;have hn:=V.ord.name s hs;have hu:=V.ord.under s hs;unfold bq at hu;rw[if_pos ⟨hn,V.ord.apex⟩]at hu;unfold eC gq;rw[QC hv hn hu]
def oL(l:List Int):List (List D×D):=l.map λn=>([.tuple [.int .i64 n]],.bool true)
def zQ(l:List Int)(n:Int):List Int:=if l.contains n=true then l else l++[n]
theorem Bm(n:Int):∀l:List Int,eL (.int .i64 n) (oL l)=some (if l.contains n=true then some (.bool true)else none)
 |[]=>rfl
 |x::l=>by
  show(match eG (.int .i64 n) [.tuple [.int .i64 x]]with|some true=>_|some false=>eL _ (oL l)|none=>none)=_
  have:eG (.int .i64 n) [.tuple [.int .i64 x]]=some (n==x):=rfl;rw[this,List.contains_cons];cases h:(n==x)with
  |true=>simp
  |false=>simp only[dF];exact Bm n l
theorem DK{n:Int}:∀{l:List Int},qD (.int .i64 n) (.bool true) (oL l)=some (oL (zQ l n))
 |[]=>rfl
 |x::l=>by
  unfold zQ;show(match eG (.int .i64 n) [.tuple [.int .i64 x]]with|some true=>_|some false=>(qD _ _ (oL l)).map _|none=>none)=_
  have:eG (.int .i64 n) [.tuple [.int .i64 x]]=some (n==x):=rfl;rw[this,List.contains_cons];cases h:(n==x)with
  |true =>
   have hx:x=n:=(eq_of_beq h).symm;subst hx;simp[oL]
  |false =>
   simp only[dF];rw[DK (l:=l)];unfold zQ;split <;> rfl
theorem Nl(l:List Int)(n x:Int):(zQ l n).contains x=(l.contains x||(x==n)):=by
 rw[Bool.eq_iff_iff,Bool.or_eq_true,dw,dw,beq_iff_eq];unfold zQ;split
 . rename_i h;exact⟨.inl,λhx=>hx.elim id λe=>e ▸ dw.1 h⟩
 . simp
def sN(f:eu->Bool)(l:List eu)(k:Nat):List Int:=((List.range k).filter λi=>(l[i]?.map f).getD false).map λ(i:Nat)=>(i:Int)
theorem LG{f:eu->Bool}{l:List eu}{k:Nat}{h:eu}(hk:l[k]? =some h):sN f l (k+1)=sN f l k++(if f h=true then[(k:Int)]else[]):=by
 unfold sN;rw[List.range_succ,List.filter_append,List.map_append]
 congr 1
 by_cases hf:f h=true
 . rw[if_pos hf,List.filter_cons_of_pos (by rw[hk];exact hf)];rfl
 . rw[if_neg hf,List.filter_cons_of_neg (by rw[hk];exact hf)];rfl
theorem OA(f:eu->Bool)(l:List eu)(k:Nat):(sN f l k).length<=k:=by
 unfold sN;rw[ak];have:=List.length_filter_le (λi=>(l[i]?.map f).getD false) (List.range k);rw[List.length_range]at this;exact this
def onB(w:az)(a:Bs)(h:eu):Bool:=((bx w.zones a).1.any λs=>(cM w s).contains h.addr)&&bM w a h.addr
def iT(w:az)(a:Bs):List Int×Int:=if (aN w&&aq a)=true then(match aY w.zones a with|some _=>(sN (onB w a) w.hosts w.hosts.length,0)|none=>([],4))else([],1)
theorem xe{w:az}(hF:cA w)(s:Bs):(cM w s).length<=100000:=by
 unfold cM iq;rw[ak];split
 . split
   . rename_i x hx;have:=List.mem_of_getLast? hx;exact((nH hF ⟨s,1⟩).small x (List.mem_filter.1 this).1).1
   . exact Nat.zero_le _
 . exact Nat.zero_le _
theorem Gj{w:az}(hF:cA w)(hv:aN w=true)(a:Bs):(bx w.zones a).1.length<=200000:=by
 have hg:mg w.zones:=λp hp=>⟨hF.few p hp,(bB hv p hp).1⟩
 have ht:∀b,(fD w.zones b a).length<=200000:=λb=>by
  unfold fD;cases hc:aY w.zones b with
  |none=>exact Nat.zero_le _
  |some x =>
   have h1:=(dG hc).1;have h2:=cS (hg _ h1).1;have h3:=Go.Proofs.YtmaepddmaghpjaaGreatDoor.oB (z:=x.2.zone) a (λs hs=>by have:=(h2.2 s hs).1;omega) x.2.zone.sets.length;rw[List.take_length]at h3;have:(bR x.2.zone a).length<=100*x.2.zone.sets.length:=h3;dsimp only;omega
 unfold bx;split
 . exact ht _
 . split
   . exact ht _
   . exact Nat.zero_le _
end NP
namespace Go.Proofs.YtmaepddmaghpjaaGreatDoor
open NQ Go NP Go.RowKit
def Ty:Nat->List Nat
 |7=>[44444]
 |8=>[88888]
 |12=>[88888]
 |15=>[88888]
 |18=>[18]
 |_=>[]
set_option maxHeartbeats 2000000 in
theorem Gk(w:az)(a:Bs)(hF:cA w)(hv:aN w=true)(ha:aq a=true):NQ.Fn cx 15 [.agg (aZ w),.str a] (.tuple [.d (.slice 1 ((iT w a).1.map ba)),.d (.int .i64 (iT w a).2)]) []:=by
 show NQ.Fn cxF _ _ _ _
 have hW:iT w a=(match aY w.zones a with|some _=>(sN (onB w a) w.hosts w.hosts.length,0)|none=>([],4)):=by unfold iT;rw[if_pos (by rw[hv,ha];rfl)]
 unfold onB at hW;have hfind:∀b,eL (.str b) ((bU (eT w.zones)).map cE)=some ((aY w.zones b).map λx=>D.agg (aT x.2.zone)):=λb=>by
  rw[pv,jV,xj hv];cases aY w.zones b <;> rfl
 have fV:=qJ w hF;rw[hv]at fV;have fC:=uY w hF hv;have fN:=jc a;rw[ha]at fN;refine uH Ty tyF pL Tryz.func15 (by kernel_rfl) rfl (ag rfl) ?_
 conv=>whnf
 (refine⟨_,_,fV,?_⟩;conv=>whnf)
 (refine⟨_,_,fN,?_⟩;conv=>whnf)
 (refine⟨_,_,fC,?_⟩;conv=>whnf)
 refine⟨_,hfind a,?_⟩;cases hc:aY w.zones a with
 |none =>
  rw[hc]at hW;rw[hW]
  conv=>whnf
  exact .inl ⟨rfl,rfl⟩
 |some x =>
  rw[hc]at hW;dsimp only at hW;rw[hW];clear hW
  conv=>whnf
  refine⟨⟨[(1,.d (.str a)),(2,.ptr 2 0),(6,.ptr 100006 0)],[(2,.box ((aZ w).map .d)),(100006,.box (cP w 18)),(18,.smap [])]⟩,(gy.ren [6] (by kernel_rfl)).trans (aj.zero (aj.keep ⟨⟨(by kernel_rfl),(by kernel_rfl)⟩,⟨(by kernel_rfl),(by kernel_rfl)⟩,⟨(by kernel_rfl),(by kernel_rfl)⟩,trivial⟩ ⟨⟨(by kernel_rfl),(by kernel_rfl)⟩,⟨(by kernel_rfl),(by kernel_rfl)⟩,⟨(by kernel_rfl),(by kernel_rfl)⟩,trivial⟩)),?_⟩
  conv=>whnf
  refine⟨[2,38],_,_,EM w [] a hF hv ha,⟨⟨by kernel_rfl,by kernel_rfl⟩,by kernel_rfl,by kernel_rfl,by kernel_rfl⟩,?_⟩;have hSl:(bx w.zones a).1.length<=200000:=Gj hF hv a;generalize (bx w.zones a).1=S at *
  conv=>whnf
  refine⟨Nat×List (Bs×List Int)×List Int,λx=>⟨[(1,.d (.str a)),(2,.ptr 2 0),(6,.ptr 100006 0),(9,.omap 38),(45,.d (.slice 1 (S.map aL))),(46,.d (.int .i64 ((S.map aL).length:Int))),(47,.d (.int .i64 x.1))],[(2,.box ((aZ w).map .d)),(100006,.box (cP w 18)),(18,.smap (cB x.2.1)),(38,.kmap (oL x.2.2))]⟩,
   λx=>x.1<=S.length/\kJ w x.2.1/\ ∀n,x.2.2.contains n=(S.take x.1).any λs=>(cM w s).contains n,λx=>S.length-x.1,
   ⟨(0,[],[]),⟨Nat.zero_le _,(λp hp=>by cases hp),λn=>rfl⟩,aj.keep ⟨ab,ab,ab,ab,ab,ab,ab,trivial⟩ ⟨ab,ab,ab,ab,trivial⟩⟩,λ⟨k,m,l⟩ ⟨hk,hm,hl⟩=>?_⟩
  dsimp only at hk hm hl ⊢
  conv=>whnf
  refine ae (λh1=>?_) (λh1=>?_) <;> (rw[h1];conv=>whnf)
  . have hlt:k<S.length:=by simpa using h1
    obtain⟨s,hs⟩:∃s,S[k]? =some s:=⟨_,ah hlt⟩
    have hAl:=xe hF s;refine⟨aw k,aL s,aG hs,?_⟩
    conv=>whnf
    refine⟨[2,38],_,_,zR w m s hF hv hm,⟨⟨by kernel_rfl,by kernel_rfl⟩,by kernel_rfl,by kernel_rfl,by kernel_rfl⟩,?_⟩;have hm2:=ub hm s;have hl2:∀l2:List Int,(∀n,l2.contains n=(l.contains n||(cM w s).contains n))-> ∀n,l2.contains n=(S.take (k+1)).any λs=>(cM w s).contains n:=λl2 h n=>by
     rw[h n,hl n,bj hs,List.any_append];simp
    generalize jU w m s=m2 at *
    generalize cM w s=AD at *
    conv=>whnf
    refine⟨Nat×List Int,λy=>⟨[(1,.d (.str a)),(2,.ptr 2 0),(6,.ptr 100006 0),(9,.omap 38),(45,.d (.slice 1 (S.map aL))),(46,.d (.int .i64 ((S.map aL).length:Int))),(47,.d (.int .i64 k)),(53,.d (.slice 1 (AD.map ba))),(54,.d (.int .i64 ((AD.map ba).length:Int))),(55,.d (.int .i64 y.1))],[(2,.box ((aZ w).map .d)),(100006,.box (cP w 18)),(18,.smap (cB m2)),(38,.kmap (oL y.2))]⟩,
     λy=>y.1<=AD.length/\ ∀n,y.2.contains n=(l.contains n||(AD.take y.1).contains n),λy=>AD.length-y.1,
     ⟨(0,l),⟨Nat.zero_le _,λn=>by simp⟩,aj.keep ⟨ab,ab,ab,ab,ab,ab,ab,ab,ab,ab,trivial⟩ ⟨ab,ab,ab,ab,trivial⟩⟩,λ⟨j,l2⟩ ⟨hj,hl3⟩=>?_⟩
    dsimp only at hj hl3 ⊢
    conv=>whnf
    refine ae (λh2=>?_) (λh2=>?_) <;> (rw[h2];conv=>whnf)
    . have hjl:j<AD.length:=by simpa using h2
      obtain⟨n,hn⟩:∃n,AD[j]? =some n:=⟨_,ah hjl⟩
      refine⟨aw j,ba n,aG hn,?_⟩
      conv=>whnf
      refine⟨_,DK,?_⟩
      conv=>whnf
      refine⟨(j+1,zQ l2 n),⟨hjl,λx=>?_⟩,by(show AD.length-(j+1)<AD.length-j;omega),aj.keep ⟨ab,ab,ab,ab,ab,ab,ab,ab,ab,⟨an (by omega),rfl⟩,trivial⟩ ⟨ab,ab,ab,ab,trivial⟩⟩;rw[Nl,hl3 x,bj hn,Bool.or_assoc]
      congr 1
      rw[Bool.eq_iff_iff,Bool.or_eq_true,dw,dw,List.mem_append,beq_iff_eq,List.mem_singleton]
    . obtain rfl:j=AD.length:=by simp at h2;omega
      rw[List.take_length]at hl3;exact⟨(k+1,m2,l2),⟨hlt,hm2,hl2 l2 hl3⟩,by(show S.length-(k+1)<S.length-k;omega),aj.keep ⟨ab,ab,ab,ab,ab,ab,⟨an (by omega),rfl⟩,trivial⟩ ⟨ab,ab,ab,ab,trivial⟩⟩
  . obtain rfl:k=S.length:=by simp at h1;omega
    rw[List.take_length]at hl;have hhosts:=hF.hosts;refine⟨Nat,λi=>⟨[(1,.d (.str a)),(6,.ptr 100006 0),(9,.omap 38),(16,.own 16),(64,.d (.slice 3 (w.hosts.map dS))),(65,.d (.int .i64 ((w.hosts.map dS).length:Int))),(66,.d (.int .i64 i))],[(100006,.box ((It w m).map .d)),(16,.row 3 1 ((sN (λh=>(S.any λs=>(cM w s).contains h.addr)&&bM w a h.addr) w.hosts i).map ba)),(38,.kmap (oL l))]⟩,λi=>i<=w.hosts.length,λi=>w.hosts.length-i,
     ⟨0,Nat.zero_le _,(aj.ni 16 16 1 3 1 rfl rfl (by decide)).trans (aj.keep ⟨ab,ab,ab,ab,ab,ab,ab,trivial⟩ ⟨ab,ab,ab,trivial⟩)⟩,λi hi=>?_⟩
    dsimp only at hi ⊢
    conv=>whnf
    refine ae (λh2=>?_) (λh2=>?_) <;> (rw[h2];conv=>whnf)
    . have hil:i<w.hosts.length:=by simpa using h2
      obtain⟨h,hh⟩:∃h,w.hosts[i]? =some h:=⟨_,ah hil⟩
      refine⟨aw i,dS h,aG hh,?_⟩
      conv=>whnf
      refine⟨_,Bm h.addr l,?_⟩;rw[hl h.addr];have hsn:=LG (f:=λh=>(S.any λs=>(cM w s).contains h.addr)&&bM w a h.addr) hh;cases hx:S.any (λs=>(cM w s).contains h.addr)with
      |false =>
       rw[hx,iF,if_neg (by simp),List.append_nil]at hsn
       conv=>whnf
       refine⟨i+1,hil,by(show w.hosts.length-(i+1)<w.hosts.length-i;omega),aj.keep ⟨ab,ab,ab,ab,ab,ab,⟨an (by omega),rfl⟩,trivial⟩ ⟨ab,⟨?_,rfl⟩,ab,trivial⟩⟩;rw[hsn];rfl
      |true =>
       rw[hx,du]at hsn;have hix:=OA (λh=>(S.any λs=>(cM w s).contains h.addr)&&bM w a h.addr) w.hosts i
       conv=>whnf
       (refine⟨_,_,BF w m a h.addr,?_⟩;conv=>whnf)
       cases hy:bM w a h.addr with
       |false =>
        rw[hy,if_neg (by simp),List.append_nil]at hsn
        conv=>whnf
        refine⟨i+1,hil,by(show w.hosts.length-(i+1)<w.hosts.length-i;omega),aj.keep ⟨ab,ab,ab,ab,ab,ab,⟨an (by omega),rfl⟩,trivial⟩ ⟨ab,⟨?_,rfl⟩,ab,trivial⟩⟩;rw[hsn];rfl
       |true =>
        rw[hy,if_pos rfl]at hsn
        conv=>whnf
        generalize sN (λh=>(S.any λs=>(cM w s).contains h.addr)&&bM w a h.addr) w.hosts i=I at *
        refine⟨by(show(I.map ba).length+1<=_);rw[ak];omega,by(show((I.map ba).length+1)*8<=_);rw[ak];omega,?_⟩
        conv=>whnf
        refine⟨i+1,hil,by(show w.hosts.length-(i+1)<w.hosts.length-i;omega),aj.keep ⟨ab,ab,ab,ab,ab,ab,⟨an (by omega),rfl⟩,trivial⟩ ⟨ab,⟨?_,rfl⟩,ab,trivial⟩⟩;rw[hsn,List.map_append];rfl
    . obtain rfl:i=w.hosts.length:=by simp at h2;omega
      exact .inl ⟨rfl,rfl⟩
theorem tq(w:az)(a:Bs)(hF:cA w):NQ.Fn cx 15 [.agg (aZ w),.str a] (.tuple [.d (.slice 1 ((iT w a).1.map ba)),.d (.int .i64 (iT w a).2)]) []:=by
 have fV:=qJ w hF;have fN:=jc a;cases hv:aN w with
 |false =>
  rw[hv]at fV;have e:iT w a=([],1):=by unfold iT;rw[hv];rfl
  rw[e];refine aA aO mixed Tryz.func15 (by kernel_rfl) rfl (ag rfl) ?_;conv=>whnf
  (refine⟨_,_,fV,?_⟩;conv=>whnf)
  exact af rfl rfl
 |true =>
  cases ha:aq a with
  |false =>
   rw[hv]at fV;rw[ha]at fN;have e:iT w a=([],1):=by unfold iT;rw[hv,ha];rfl
   rw[e];refine aA aO mixed Tryz.func15 (by kernel_rfl) rfl (ag rfl) ?_;conv=>whnf
   (refine⟨_,_,fV,?_⟩;conv=>whnf)
   (refine⟨_,_,fN,?_⟩;conv=>whnf)
   exact af rfl rfl
  |true=>exact Gk w a hF hv ha
end Go.Proofs.YtmaepddmaghpjaaGreatDoor
namespace NP
open NQ Go
def cY(l:List Fnd):List (List D×D):=l.map λf=>(cr f,.bool true)
def mT(l:List Fnd)(f:Fnd):List Fnd:=if l.contains f=true then l else l++[f]
theorem sU{l:List Fnd}{f x:Fnd}:x∈mT l f ↔ x∈l\/x=f:=by
 unfold mT;split
 . rename_i h;exact⟨.inl,λhx=>hx.elim id λe=>e ▸ dw.1 h⟩
 . simp
theorem Sr(f x:Fnd):cm [.int .i64,.str,.str] ((cr f).map .d) ((cr x).map .d)=some (f==x):=by
 obtain⟨a,b,c⟩:=f;obtain⟨a',b',c'⟩:=x;show some ((a==a')&&((b==b')&&((c==c')&&true)))=_
 congr 1
 rw[Bool.eq_iff_iff];simp
theorem GR{f:Fnd}:∀{l:List Fnd},mz [.int .i64,.str,.str] (cr f) (.bool true) (cY l)=some (cY (mT l f))
 |[]=>rfl
 |x::l=>by
  unfold mT;show(match cm [.int .i64,.str,.str] ((cr f).map .d) ((cr x).map .d)with|some true=>_|some false=>(mz _ _ _ (cY l)).map _|none=>none)=_
  rw[Sr,List.contains_cons];cases h:(f==x)with
  |true =>
   have hx:x=f:=(eq_of_beq h).symm;subst hx;simp[cY]
  |false =>
   simp only[dF];rw[GR (l:=l)];unfold mT;split <;> rfl
end NP
namespace Go.Proofs.YtmaepddmaghpjaaGreatDoor
open NQ Go NP Go.RowKit
def hN(l:List Fnd):List (Nat×Blk):=[(100005,.box [.omap 20]),(20,.kmap (cY l))]
theorem Lf(a b:List Bs)(ha:a.length<=200000):NQ.Fn cx 24 [.slice 1 (a.map aL),.slice 1 (b.map aL)] (.d (.bool (a==b))) []:=by
 refine aA aO mixed Tryz.func24 (by kernel_rfl) rfl (ag rfl) ?_;conv=>whnf
 by_cases hl:a.length=b.length
 . rw[show(((a.map aL).length:Int) != ((b.map aL).length:Int))=false by simp[hl]]
   conv=>whnf
   refine⟨Nat,λk=>⟨[(0,.d (.slice 1 (a.map aL))),(1,.d (.slice 1 (b.map aL))),(12,.d (.int .i64 ((a.map aL).length:Int))),(13,.d (.int .i64 k))],[]⟩,λk=>k<=a.length/\a.take k=b.take k,λk=>a.length-k,
    ⟨0,⟨Nat.zero_le _,rfl⟩,aj.keep ⟨ab,ab,ab,ab,trivial⟩ trivial⟩,λk ⟨hk,he⟩=>?_⟩
   dsimp only at hk he ⊢
   conv=>whnf
   refine ae (λh1=>?_) (λh1=>?_) <;> (rw[h1];conv=>whnf)
   . have hlt:k<a.length:=by simpa using h1
     obtain⟨x,hx⟩:∃x,a[k]? =some x:=⟨_,ah hlt⟩
     obtain⟨y,hy⟩:∃y,b[k]? =some y:=⟨_,ah (by omega)⟩
     (refine⟨(by kernel_rfl:bg _ _=true),?_⟩;conv=>whnf)
     refine⟨aw k,aL x,aG hx,?_⟩
     conv=>whnf
     refine⟨aw k,aL y,aG hy,?_⟩
     conv=>whnf
     by_cases hxy:x=y
     . rw[show(x==y)=true by simp[hxy]]
       conv=>whnf
       refine⟨k+1,⟨hlt,?_⟩,by(show a.length-(k+1)<a.length-k;omega),aj.keep ⟨ab,ab,ab,⟨an (by omega),rfl⟩,trivial⟩ trivial⟩;rw[bj hx,bj hy,he,hxy]
     . rw[show(x==y)=false by simp[hxy]]
       conv=>whnf
       refine af rfl ?_;have:(a==b)=false:=by
        rw[beq_eq_false_iff_ne];intro e;rw[e,hy]at hx;exact hxy (by cases hx;rfl)
       rw[this];rfl
   . obtain rfl:k=a.length:=by simp at h1;omega
     refine af rfl ?_;have:(a==b)=true:=by
      rw[List.take_length,hl,List.take_length]at he;rw[he];simp
     rw[this];rfl
 . rw[show(((a.map aL).length:Int) != ((b.map aL).length:Int))=true by simp;omega]
   conv=>whnf
   refine af rfl ?_;have:(a==b)=false:=by
    rw[beq_eq_false_iff_ne];intro e;exact hl (by rw[e])
   rw[this];rfl
theorem Le(a b:List Int)(ha:a.length<=200000):NQ.Fn cx 31 [.slice 1 (a.map ba),.slice 1 (b.map ba)] (.d (.bool (a==b))) []:=by
 refine aA aO mixed Tryz.func31 (by kernel_rfl) rfl (ag rfl) ?_;conv=>whnf
 by_cases hl:a.length=b.length
 . rw[show(((a.map ba).length:Int) != ((b.map ba).length:Int))=false by simp[hl]]
   conv=>whnf
   refine⟨Nat,λk=>⟨[(0,.d (.slice 1 (a.map ba))),(1,.d (.slice 1 (b.map ba))),(12,.d (.int .i64 ((a.map ba).length:Int))),(13,.d (.int .i64 k))],[]⟩,λk=>k<=a.length/\a.take k=b.take k,λk=>a.length-k,
    ⟨0,⟨Nat.zero_le _,rfl⟩,aj.keep ⟨ab,ab,ab,ab,trivial⟩ trivial⟩,λk ⟨hk,he⟩=>?_⟩
   dsimp only at hk he ⊢
   conv=>whnf
   refine ae (λh1=>?_) (λh1=>?_) <;> (rw[h1];conv=>whnf)
   . have hlt:k<a.length:=by simpa using h1
     obtain⟨x,hx⟩:∃x,a[k]? =some x:=⟨_,ah hlt⟩
     obtain⟨y,hy⟩:∃y,b[k]? =some y:=⟨_,ah (by omega)⟩
     (refine⟨(by kernel_rfl:bg _ _=true),?_⟩;conv=>whnf)
     refine⟨aw k,ba x,aG hx,?_⟩
     conv=>whnf
     refine⟨aw k,ba y,aG hy,?_⟩
     conv=>whnf
     by_cases hxy:x=y
     . rw[show(x != y)=false by simp[hxy]]
       conv=>whnf
       refine⟨k+1,⟨hlt,?_⟩,by(show a.length-(k+1)<a.length-k;omega),aj.keep ⟨ab,ab,ab,⟨an (by omega),rfl⟩,trivial⟩ trivial⟩;rw[bj hx,bj hy,he,hxy]
     . rw[show(x != y)=true by simp[hxy]]
       conv=>whnf
       refine af rfl ?_;have:(a==b)=false:=by
        rw[beq_eq_false_iff_ne];intro e;rw[e,hy]at hx;exact hxy (by cases hx;rfl)
       rw[this];rfl
   . obtain rfl:k=a.length:=by simp at h1;omega
     refine af rfl ?_;have:(a==b)=true:=by
      rw[List.take_length,hl,List.take_length]at he;rw[he];simp
     rw[this];rfl
 . rw[show(((a.map ba).length:Int) != ((b.map ba).length:Int))=true by simp;omega]
   conv=>whnf
   refine af rfl ?_;have:(a==b)=false:=by
    rw[beq_eq_false_iff_ne];intro e;exact hl (by rw[e])
   rw[this];rfl
end Go.Proofs.YtmaepddmaghpjaaGreatDoor
namespace NP
open NQ Go
def PY(x y:List D):Int:=match x,y with|[.int _ k,.str z,.str n],[.int _ k',.str z',.str n']=>gS ⟨k,z,n⟩ ⟨k',z',n'⟩|_,_=>0
theorem xk(f g:Fnd):PY (cr f) (cr g)=gS f g:=rfl
theorem xl{a b:Fnd}(h1:¬gS a b<0):gS b a<0\/a=b:=by
 rcases Classical.em (gS b a<0)with h2|h2
 . exact .inl h2
 . exact .inr (Bc h1 h2)
theorem Aa(l:List Fnd):jb gS l:=by
 refine⟨λx _=>sw x,λx _ y _ z _=>mq,λx _ y _ z _ h1 h2 h3=>?_⟩;rcases xl h1 with h4|rfl
 . rcases xl h2 with h5|rfl
   . exact sw x (mq h3 (mq h5 h4))
   . exact h1 h3
 . exact h2 h3
theorem RG{l:List Fnd}(h:l.Nodup):de gS l=mK l:=by
 have hp:=gG (Aa l);have hs:=pW (Aa l);have hnd:(de gS l).Nodup:=hp.nodup_iff.2 h;refine mh.ext ?_ (oV l) λx=>by rw[lU,hp.mem_iff]
 exact(hs.and hnd).imp λ{a b} ⟨h1,h2⟩=>(xl h1).elim id λe=>absurd e.symm h2
end NP
namespace Go.Proofs.YtmaepddmaghpjaaGreatDoor
open NQ Go NP Go.RowKit
theorem Gp(l:List Fnd)(hv:∀f∈l,yh f)(hl:l.length<=100000)(fl:Bool):FnR cx 66 false 37 3 (l.map cr) fl [.fn 35 [] []] ((de gS l).map cr):=by
 rw[<- vo cr gS PY l λx _ y _=>xk x y];exact xZ (cx:=cx) (ρ:=Tryz.zA) Tryz.SN (k:=3) Tryz.isAgg37 Tryz.sizeOf37 ⟨_,Tryz.func66,by kernel_rfl,rfl⟩
  (λx hx y hy=>by
   obtain⟨a,ha,rfl⟩:=List.mem_map.1 hx;obtain⟨b,hb,rfl⟩:=List.mem_map.1 hy;rw[xk];exact FA a b (hv a ha) (hv b hb)) (enters_of Tryz.func35 (by kernel_rfl) rfl) ((Aa l).map λx _ y _=>xk x y) (by rw[ak];omega)
end Go.Proofs.YtmaepddmaghpjaaGreatDoor
namespace NQ
open Go
theorem DY{fx:List Nat}{h:List (Nat×Blk)}(e:fx.all (λs=>(find h s).isSome)=true):∀s∈fx,live h s:=λs hs=>av.1 e s hs
theorem PX{fx:List Nat}{h:List (Nat×Blk)}(e:fx.all (λs=>Nat.ble 100000 s&&(match find h s with|some b=>zh b|none=>false))=true):∀s∈fx,100000<=s/\ ∃b,find h s=some b/\zh b=true:=λs hs=>by
 have:=av.1 e s hs;rw[ay]at this;refine⟨ag this.1,?_⟩;have h2:=this.2;split at h2
 . rename_i b e;exact⟨b,e,h2⟩
 . cases h2
def LM(m:List (List D×D)):Src:=⟨List (List D×D)×List (List D×D),([],m),λp x p' => ∃i kk v,p.2[i]? =some (kk,v)/\x=[uQ kk]/\p' =(p.1++[(kk,v)],p.2.eraseIdx i),λp=>p.2=[]⟩
theorem sD{α:Type}:∀{l:List α} {i:Nat} {x:α},l[i]? =some x->(x::l.eraseIdx i).Perm l
 |[],i,x,h=>by simp at h
 |y::t,0,x,h=>by cases h;exact List.Perm.refl _
 |y::t,i+1,x,h=>by
  have:=sD (l:=t) (i:=i) (x:=x) (by simpa using h);rw[List.eraseIdx_cons_succ];exact(List.Perm.swap y x _).trans (this.cons y)
theorem MG{α:Type}{T l m:List α}{i:Nat}{x:α}(h:(T++l).Perm m)(hx:l[i]? =some x):((T++[x])++l.eraseIdx i).Perm m:=by
 rw[List.append_assoc];exact((sD hx).append_left T).trans h
end NQ
namespace NP
open NQ Go
theorem Ol{l:List Fnd}{i:Nat}{kk:List D}{v:D}(h:(cY l)[i]? =some (kk,v)):∃f,l[i]? =some f/\kk=cr f/\v= .bool true:=by
 unfold cY at h;rw[aM]at h;cases hf:l[i]? with
 |none=>rw[hf]at h;cases h
 |some f=>rw[hf]at h;cases h;exact⟨f,rfl,rfl,rfl⟩
theorem sH:∀(l:List Fnd) (i:Nat),(cY l).eraseIdx i=cY (l.eraseIdx i)
 |[],_=>rfl
 |_::_,0=>rfl
 |f::t,i+1=>by
  show(cr f,D.bool true)::(cY t).eraseIdx i=(cr f,D.bool true)::cY (t.eraseIdx i)
  rw[sH t i]
def unF:List D×D->Fnd
 |([.int _ k,.str z,.str n],_)=>⟨k,z,n⟩
 |_=>⟨0,[],[]⟩
theorem Lo{T:List (List D×D)}{l:List Fnd}(h:T.Perm (cY l)):∃r:List Fnd,r.Perm l/\T=cY r:=by
 refine⟨T.map unF,?_,?_⟩
 . have:=h.map unF;have e:(cY l).map unF=l:=by
    unfold cY;rw[List.map_map];exact(List.map_congr_left λf _=>by cases f;rfl).trans (List.map_id l)
   rwa [e]at this
 . unfold cY;rw[List.map_map];have e:T.map ((λf=>(cr f,D.bool true)) ∘ unF)=T.map id:=List.map_congr_left λp hp=>by
    obtain⟨f,_,rfl⟩:=List.mem_map.1 (h.subset hp);cases f;rfl
   rw[e,List.map_id]
end NP
namespace Go.Proofs.YtmaepddmaghpjaaGreatDoor
open NQ Go NP Go.RowKit
noncomputable def cxY:Cx:={cx with chg:=λg=>match Nat.beq g 65,Nat.beq g 113,Nat.beq g 66 with|true,_,_=>7|_,true,_=>7|_,_,true=>2|_,_,_=>cx.chg g}
theorem tyY:bl cxY:=aO
theorem Ee:cxY.P.follows .mixedOrders=true:=mixed
def yS(l:List Fnd):D:= .fn 67 [] [.ptr [.kmap (cY l)]]
theorem OG(l:List Fnd):NQ.Fn cx 34 [.kmap (cY l)] (.d (yS l)) []:=by
 refine aA aO mixed Tryz.func34 (by kernel_rfl) rfl (ag rfl) ?_;conv=>whnf
 exact af rfl rfl
theorem Ji(l:List Fnd):Cs cx 67 [.ptr [.kmap (cY l)]] (LM (cY l)):=by
 refine rl (fun|0=>[88888]|1=>[88888]|2=>[88888]|3=>[77777]|_=>[]) aO mixed Tryz.func67 (by kernel_rfl) rfl rfl (ag rfl) ?_
 conv=>whnf
 refine⟨rfl,?_⟩
 conv=>whnf
 refine⟨List Fnd×List Fnd×Option (List D×D),λx=>(((cY x.1,cY x.2.1),true),⟨[(1,.d (.ptr [.kmap (cY l)])),(5,.ptr 5 0)],[(5,.iter (cY x.2.1) x.2.2)]⟩),λ_=>True,λx=>x.2.1.length,
  ⟨([],l,none),trivial,rfl,aj.keep ⟨ab,ab,trivial⟩ ⟨ab,trivial⟩⟩,λ⟨T,L,cur⟩ _=>?_⟩
 dsimp only
 conv=>whnf
 refine⟨rfl,?_⟩
 conv=>whnf
 refine⟨λhnil=>?_,λi kk y hy=>?_⟩
 . conv=>whnf
   exact⟨trivial,λ_=>hnil⟩
 . obtain⟨f,hf,rfl,rfl⟩:=Ol hy
   conv=>whnf
   refine⟨rfl,?_⟩
   conv=>whnf
   repeat' (first|(refine⟨rfl,?_⟩;conv=>whnf)|fail)
   refine⟨_,(cY (T++[f]),cY (L.eraseIdx i)),⟨i,cr f,.bool true,hy,rfl,by rw[sH];unfold cY;rw[List.map_append];rfl⟩,rfl,λb=>?_⟩
   conv=>whnf
   have hlt:=(ar.1 hf).1;cases b with
   |true =>
    repeat' (first|(refine⟨rfl,?_⟩;conv=>whnf)|fail)
    refine⟨(T++[f],L.eraseIdx i,some (cr f,.bool true)),trivial,by(show(L.eraseIdx i).length<L.length;rw[List.length_eraseIdx,if_pos hlt];omega),rfl,aj.keep ⟨ab,ab,trivial⟩ ⟨⟨?_,rfl⟩,trivial⟩⟩;rw[sH];rfl
   |false =>
    repeat' (first|(refine⟨rfl,?_⟩;conv=>whnf)|fail)
    exact⟨trivial,λh=>by cases h⟩
def tS(l:List Fnd):Type:={r:List Fnd // r.Perm l}
def Cz(l:List Fnd)(r:tS l):List (Nat×Blk):=[(200,.row 37 3 (r.1.map cr))]
theorem Fx(l:List Fnd)(hl:l.length<=100000):FnC cx 113 [.nil 3,.d (yS l)] (λ_:tS l=> .own 200) (Cz l):=by
 show FnC cxY _ _ _ _
 refine yN (λ_=>[]) tyY Ee Tryz.func113 (by kernel_rfl) rfl (ag rfl) ?_
 conv=>whnf
 refine⟨67,_,LM (cY l),[(2,.ptr 100002 0),(6,.d (yS l))],Unit,(),λp _=>[(100002,.box [.own 200]),(200,.row 37 3 (p.1.map (·.1)))],[100002],λp _=>(p.1++p.2).Perm (cY l),
  (aj.zero (aj.oP 2 0 200 3 [.nil 3] 37 3 (by kernel_rfl) rfl (by kernel_rfl) (by decide))).trans ((gy.ren [2] (by kernel_rfl)).trans (aj.zero (aj.keep ⟨⟨(by kernel_rfl),(by kernel_rfl)⟩,⟨(by kernel_rfl),(by kernel_rfl)⟩,trivial⟩ ⟨⟨(by kernel_rfl),(by kernel_rfl)⟩,⟨(by kernel_rfl),(by kernel_rfl)⟩,trivial⟩))),
  ⟨rfl,Ji l,?_,rfl,rfl⟩,⟨ag rfl,PX (by kernel_rfl),rfl,by kernel_rfl⟩,List.Perm.refl _,?_,?_⟩
 . rintro k x k' ⟨i,kk,v,_,rfl,_⟩;rfl
 . rintro⟨T,L⟩ x k' _ ⟨i,kk,v,hi,rfl,rfl⟩ hN;dsimp only at hi hN;have hTL:=hN.length_eq;have hmem:(kk,v)∈cY l:=hN.subset (List.mem_append.2 (.inr (ao hi)));obtain⟨f,_,he⟩:=List.mem_map.1 hmem;cases he;have hlen:T.length<=100000:=by
    rw[List.length_append]at hTL;unfold cY at hTL;rw[ak]at hTL;omega
   conv=>whnf
   refine⟨by(show(T.map (·.1)).length+1<=_);rw[ak];omega,by(show((T.map (·.1)).length+1)*40<=_);rw[ak];omega,?_⟩
   conv=>whnf
   refine⟨(),⟨?_,DY (by kernel_rfl)⟩,MG hN hi⟩;show aj cxY _ ⟨[],[(100002,.box [.own 200]),(200,.row 37 3 ((T++[(cr f,D.bool true)]).map (·.1)))]⟩
   rw[List.map_append];exact aj.keep trivial ⟨⟨(by kernel_rfl),(by kernel_rfl)⟩,⟨(by kernel_rfl),(by kernel_rfl)⟩,trivial⟩
 . rintro⟨T,L⟩ _ hfin hN;have hfin:L=[]:=hfin;subst hfin;rw[List.append_nil]at hN;obtain⟨r,hr,hTr⟩:=Lo hN;have hT:T=cY r:=hTr;subst hT;have e:(cY r).map (·.1)=r.map cr:=by unfold cY;rw[List.map_map];rfl
   dsimp only;rw[e]
   conv=>whnf
   exact⟨⟨r,hr⟩,tk (bs:=Cz l ⟨r,hr⟩) rfl rfl ⟨⟨rfl,rfl⟩,trivial⟩⟩
theorem De(l:List Fnd)(hl:l.length<=100000):FnC cx 65 [.d (yS l)] (λ_:tS l=> .own 200) (Cz l):=by
 show FnC cxY _ _ _ _
 refine yN (fun|1=>[88888]|_=>[]) tyY Ee Tryz.func65 (by kernel_rfl) rfl (ag rfl) ?_
 conv=>whnf
 refine⟨tS l,_,_,⟨Fx l hl,λr=>⟨rfl,rfl⟩⟩,λr=>?_⟩
 conv=>whnf
 exact⟨r,tk (bs:=Cz l r) rfl rfl ⟨⟨rfl,rfl⟩,trivial⟩⟩
theorem JX(l:List Fnd)(hnd:l.Nodup)(hv:∀f∈l,yh f)(hl:l.length<=100000):NQ.Fn cx 33 [yS l,.fn 35 [] []] (.d (.slice 3 ((mK l).map cr))) []:=by
 show NQ.Fn cxY _ _ _ _
 refine cC (fun|1=>[88888]|_=>[]) tyY Ee Tryz.func33 (by kernel_rfl) rfl (ag rfl) ?_
 conv=>whnf
 refine⟨tS l,_,_,⟨De l hl,λr=>⟨rfl,rfl⟩⟩,λ⟨r,hr⟩=>?_⟩;have hF:∀fl,FnR cxY 66 false 37 3 (r.map cr) fl [.fn 35 [] []] ((mK l).map cr):=λfl=>by
  have:=Gp r (λf hf=>hv f (hr.subset hf)) (by rw[hr.length_eq];exact hl) fl
  rwa [RG (hr.nodup_iff.2 hnd),rE λx=>hr.mem_iff]at this
 conv=>whnf
 refine⟨_,hF _,?_⟩
 conv=>whnf
 exact af rfl rfl
end Go.Proofs.YtmaepddmaghpjaaGreatDoor
namespace NP
open NQ Go
theorem tT{zs:List ai}:∀(f:Nat) (s:Bs),aq s=true->(bc s).length<f ->
 match iM zs f s with
  |some h=>(aY zs h).isSome=true/\aD s h=true/\h≠s/\ ∀b,(aY zs b).isSome=true->aD s b=true->b≠s->aD h b=true
  |none=> ∀b,(aY zs b).isSome=true->aD s b=true->b=s
 |0,s,_,h=>by omega
 |f+1,s,hv,hf=>by
  unfold iM;by_cases hs:s=[46]
  . rw[if_pos hs];intro b hb hu;subst hs;exact mL (mc b) hu
  . rw[if_neg hs];obtain⟨_,_,h3⟩:=kD hv (mc s) hs;have hps:bu s≠s:=λe=>by rw[e]at h3;omega
    by_cases hc:(aY zs (bu s)).isSome=true
    . rw[if_pos hc];exact⟨hc,mE hv,hps,λb hb hu hne=>mM hv hu hne.symm⟩
    . rw[if_neg hc];have ih:=tT (zs:=zs) f (bu s) (fO hv) (by omega);have ne:∀b,(aY zs b).isSome=true->b≠bu s:=λb hb e=>hc (e ▸ hb)
      split at ih
      . rename_i h e;refine⟨ih.1,nI (mE hv) ih.2.1,λe2=>?_,λb hb hu hne=>ih.2.2.2 b hb (mM hv hu hne.symm) (ne b hb)⟩;have h4:=ih.2.1;rw[e2]at h4;exact hps (mL h4 (mE hv))
      . intro b hb hu;by_cases e:b=s
        . exact e
        . exact absurd (ih b hb (mM hv hu (Ne.symm e))) (ne b hb)
theorem wb(zs:List ai){s:Bs}(hv:aq s=true):match di zs s with
 |some h=>(aY zs h).isSome=true/\aD s h=true/\h≠s/\ ∀b,(aY zs b).isSome=true->aD s b=true->b≠s->aD h b=true
 |none=> ∀b,(aY zs b).isSome=true->aD s b=true->b=s:=tT _ s hv (Nat.lt_succ_self _)
theorem nx{zs:List ai}{p:ai}(hp:p∈zs):(aY zs p.zone.apex).isSome=true:=by
 cases h:aY zs p.zone.apex with
 |none=>exact absurd rfl (ui.1 h p hp)
 |some x=>rfl
theorem HQ{zs:List ai}(hz:∀p∈zs,aq p.zone.apex=true){a:Bs}(ha:aq a=true):(fj zs (-1) a a).map (λx=>x.2.zone.apex)=di zs a:=by
 have ok:∀p:ai,gV (-1) a a p=true ↔ p.zone.apex≠a/\aD a p.zone.apex=true:=λp=>by
  unfold gV;simp
 have hs:=wb zs ha;cases hd:fj zs (-1) a a with
 |none =>
  have hno:=(jT _ _ _).1 hd;cases hb:di zs a with
  |none=>rfl
  |some b =>
   rw[hb]at hs;obtain⟨h1,h2,h3,_⟩:=hs;cases hc:aY zs b with
   |none=>rw[hc]at h1;cases h1
   |some x =>
    obtain⟨c1,c2,_⟩:=dG hc;have:=hno.2 x.2 c1;rw[(ok x.2).2 ⟨by rw[c2];exact h3,by rw[c2];exact h2⟩]at this;cases this
 |some x =>
  obtain⟨m1,m2,m3⟩:=sC hd;obtain⟨k1,k2⟩:=(ok x.2).1 m2;cases hb:di zs a with
  |none =>
   rw[hb]at hs;exact absurd (hs _ (nx m1) k2) k1
  |some b =>
   rw[hb]at hs;obtain⟨h1,h2,h3,h4⟩:=hs;have hu:=h4 _ (nx m1) k2 k1;cases hc:aY zs b with
   |none=>rw[hc]at h1;cases h1
   |some y =>
    obtain⟨c1,c2,_⟩:=dG hc;have hk:=m3 y.2 c1 ((ok y.2).2 ⟨by rw[c2];exact h3,by rw[c2];exact h2⟩);have hl:=((dy _ _).1 hu).length_le;have hp:dP x.2.zone.apex=dP b:=by
     have hk:dP y.2.zone.apex<=dP x.2.zone.apex:=hk;rw[c2]at hk;rw[back_eq,back_eq,List.length_reverse,List.length_reverse]at hl;have h9:dP x.2.zone.apex<=dP b:=by unfold dP;omega
     omega
    exact congrArg some (xH k2 h2 hp)
/-! ### Delegations -/
def dv(zs:List ai)(a:Bs):Option (List Datum):=match (if a=[46]then some a else di zs a)with
 |none=>none
 |some b=>match aY zs b with
  |none=>none
  |some x=>(x.2.zone.sets.find? (is ⟨a,2⟩)).map λs=>s.set.data
theorem Bg{q:aR}:∀{l:List Signed},RP l->l.filter (is q)=(l.find? (is q)).toList
 |[],_=>rfl
 |x::t,h=>by
  have ht:RP t:=(List.pairwise_cons.1 h).2;by_cases hx:is q x=true
  . rw[List.filter_cons_of_pos hx,List.find?_cons_of_pos hx];have:t.filter (is q)=[]:=List.filter_eq_nil_iff.2 λy hy hq=>by
     have e:x.place=y.place:=((lu q x).1 hx).trans ((lu q y).1 hq).symm;have exy:=RP.uniq h (List.mem_cons_self ..) (aK _ hy) e;have:=(List.pairwise_cons.1 h).1 y hy;rw[<- exy]at this;exact absurd this (by rw[(iO.zero _ _).2 rfl];omega)
    rw[this];rfl
  . rw[List.filter_cons_of_neg hx,List.find?_cons_of_neg hx];exact Bg ht
theorem Fb{z:aF}(hv:aW z=true):RP z.sets:=(dt.1 hv).ord.rising.pw
theorem sc{z:aF}(hv:aW z=true)(a:Bs):bR z a=match z.sets.find? (is ⟨a,2⟩)with|some s=>s.set.data.map (·.text)|none=>[]:=by
 have:bR z a=(z.sets.filter (is ⟨a,2⟩)).flatMap λs=>s.set.data.map (·.text):=rfl
 rw[this,Bg (Fb hv)];cases z.sets.find? (is ⟨a,2⟩) <;> simp
theorem Dm{s:gx}(h:dL s=true):0<s.data.length:=by
 obtain⟨d,hd⟩:=qC h;exact(ar.1 hd).1
theorem sG{z:aF}(hv:aW z=true){q:aR}{s:Signed}(h:z.sets.find? (is q)=some s):s∈z.sets/\s.set.name=q.name/\s.set.type=q.type:=by
 have h1:=List.mem_of_find?_eq_some h;have h2:=List.find?_some h;unfold is at h2;simp only[ay,beq_iff_eq]at h2;exact⟨h1,h2.1,h2.2⟩
theorem sF{l:List Signed}{q:aR}:(l.find? (is q)).isSome=cJ l q:=by
 unfold cJ;rw[Bool.eq_iff_iff,List.find?_isSome,List.any_eq_true]
theorem tI{w:az}(hv:aN w=true){a:Bs}(hc:(aY w.zones a).isSome=true):bx w.zones a=match dv w.zones a with|some l=>(l.map (·.text),true)|none=>([],false):=by
 have hz:∀p∈w.zones,aW p.zone=true:=λp hp=>(bB hv p hp).1
 have main:∀b x,aY w.zones b=some x->fD w.zones b a=match x.2.zone.sets.find? (is ⟨a,2⟩)with|some s=>s.set.data.map (·.text)|none=>[]:=λb x hx=>by
  unfold fD;rw[hx];exact sc (hz _ (dG hx).1) a
 unfold bx dv;by_cases ha:a=[46]
 . rw[if_pos ha];have e:di w.zones a=none:=by unfold di iM;rw[if_pos ha]
   rw[e,if_pos ha];dsimp only;cases hx:aY w.zones a with
   |none=>rw[hx]at hc;cases hc
   |some x =>
    dsimp only;rw[main a x hx];obtain⟨c1,c2,_⟩:=dG hx;have:=(dt.1 (hz _ c1)).serv;rw[c2, <- sF]at this;cases hf:x.2.zone.sets.find? (is ⟨a,2⟩)with
    |none=>rw[hf]at this;cases this
    |some s=>rfl
 . have e1:(if a=[46]then some a else di w.zones a)=di w.zones a:=if_neg ha;rw[e1];cases hb:di w.zones a with
   |none=>dsimp only;rw[if_neg ha]
   |some b =>
    dsimp only;cases hx:aY w.zones b with
    |none =>
     have:fD w.zones b a=[]:=by unfold fD;rw[hx]
     rw[this];rfl
    |some x =>
     dsimp only;rw[main b x hx];cases hf:x.2.zone.sets.find? (is ⟨a,2⟩)with
     |none=>rfl
     |some s =>
      dsimp only[Option.map];have hvz:=hz _ (dG hx).1;have:=Dm ((dt.1 hvz).ord.set s (sG hvz hf).1);rw[ak,decide_eq_true this]
theorem yF{s:gx}(h:dL s=true):∀d∈s.data,dW (ep s.type) d=true:=λd hd=>by
 unfold dL at h;simp only[ay,av,List.mem_range]at h;obtain⟨i,hi⟩:=cj hd;obtain⟨p,hp⟩:∃p,s.data[i-1]? =some p:=⟨_,ah (by have:=(ar.1 hi).1;omega)⟩
 have:=h.2 i (ar.1 hi).1;rw[sB hi hp]at this;unfold mu at this;simp only[Bool.not_eq_true',Bool.or_eq_false_iff,Bool.not_eq_false']at this;exact this.1
def pQ(d:Datum):Prop:=d.n=0/\d.m=0
def kr(d:Datum):Prop:=d.text=[]/\d.m=0
theorem zp{s:gx}(h:dL s=true)(ht:s.type=2):∀d∈s.data,pQ d:=λd hd=>by
 have:=yF h d hd;rw[ht]at this;unfold dW ep within at this;simp only[ay,decide_eq_true_eq]at this;unfold pQ;simp at this;omega
theorem yk{s:gx}(h:dL s=true)(ht:s.type=1):∀d∈s.data,kr d:=λd hd=>by
 have:=yF h d hd;rw[ht]at this;unfold dW ep within iZ at this;simp only[ay,decide_eq_true_eq]at this;unfold kr;simp at this;refine⟨?_,by omega⟩;simpa using this.2
theorem BL:∀{a b:List Datum},(∀d∈a,pQ d)->(∀d∈b,pQ d)->a.map (·.text)=b.map (·.text)->a=b
 |[],[],_,_,_=>rfl
 |[],_::_,_,_,h=>by cases h
 |_::_,[],_,_,h=>by cases h
 |x::a,y::b,ha,hb,h=>by
  simp only[List.map_cons,List.cons.injEq]at h;have h1:=ha x (List.mem_cons_self ..);have h2:=hb y (List.mem_cons_self ..);rw[BL (λd hd=>ha d (aK _ hd)) (λd hd=>hb d (aK _ hd)) h.2]
  congr 1
  obtain⟨t,n,m⟩:=x;obtain⟨t',n',m'⟩:=y;unfold pQ at h1 h2;simp at h1 h2 h;simp[h1,h2,h.1]
theorem Eh:∀{a b:List Datum},(∀d∈a,kr d)->(∀d∈b,kr d)->a.map (·.n)=b.map (·.n)->a=b
 |[],[],_,_,_=>rfl
 |[],_::_,_,_,h=>by cases h
 |_::_,[],_,_,h=>by cases h
 |x::a,y::b,ha,hb,h=>by
  simp only[List.map_cons,List.cons.injEq]at h;have h1:=ha x (List.mem_cons_self ..);have h2:=hb y (List.mem_cons_self ..);rw[Eh (λd hd=>ha d (aK _ hd)) (λd hd=>hb d (aK _ hd)) h.2]
  congr 1
  obtain⟨t,n,m⟩:=x;obtain⟨t',n',m'⟩:=y;unfold kr at h1 h2;simp at h1 h2 h;simp[h1,h2,h.1]
def bJ(w:az)(n:Bs):List Datum:=iq (dA w ⟨n,1⟩)
theorem CO(w:az)(n:Bs):cM w n=(bJ w n).map (·.n):=rfl
theorem IV{w:az}(hF:cA w)(hv:aN w=true):mg w.zones:=λp hp=>⟨hF.few p hp,(bB hv p hp).1⟩
theorem yl{w:az}(hF:cA w)(hv:aN w=true){n:Bs}(h:bJ w n≠[]):∃p∈w.zones,∃s∈p.zone.sets,s.set.type=1/\bJ w n=s.set.data:=by
 unfold bJ iq at h ⊢;split at h
 case isFalse=>exact absurd rfl h
 rename_i hA;rw[if_pos hA];split at h
 case h_2=>exact absurd rfl h
 rename_i s hs;have hm:=List.mem_of_getLast? hs;obtain⟨h1,h2⟩:=List.mem_filter.1 hm;unfold dA at h1;split at h1
 . cases h1
 . rename_i hq;have hq:bK ⟨n,1⟩=true:=by
    cases hb:bK ⟨n,1⟩with
    |true=>rfl
    |false=>rw[hv,hb]at hq;simp at hq
   obtain⟨p,hp,hsm⟩:=(rF (IV hF hv) 9 ⟨n,1⟩ [] hq (λs hs=>by cases hs)).1 s h1;exact⟨p,hp,s,hsm,by simpa using h2,rfl⟩
theorem Fv{w:az}(hF:cA w)(hv:aN w=true)(n:Bs):∀d∈bJ w n,kr d:=λd hd=>by
 obtain⟨p,hp,s,hs,ht,he⟩:=yl hF hv (n:=n) (λe=>by rw[e]at hd;cases hd);rw[he]at hd;exact yk ((dt.1 (bB hv p hp).1).ord.set s hs) ht d hd
def mD(z:aF):List Datum:=match z.sets.find? (is ⟨z.apex,2⟩)with|some s=>s.set.data|none=>[]
theorem Me{z:aF}(hv:aW z=true):bR z z.apex=(mD z).map (·.text):=by
 rw[sc hv];unfold mD;cases z.sets.find? (is ⟨z.apex,2⟩) <;> rfl
theorem Md{z:aF}(hv:aW z=true):∀d∈mD z,pQ d:=λd hd=>by
 unfold mD at hd;cases hf:z.sets.find? (is ⟨z.apex,2⟩)with
 |none=>rw[hf]at hd;cases hd
 |some s =>
  rw[hf]at hd;obtain⟨h1,_,h3⟩:=sG hv hf;exact zp ((dt.1 hv).ord.set s h1) h3 d hd
theorem yH{w:az}{a:Bs}{l:List Datum}(h:dv w.zones a=some l):∃b x s,(b=a/\a=[46]\/a≠[46]/\di w.zones a=some b)/\aY w.zones b=some x/\x.2.zone.sets.find? (is ⟨a,2⟩)=some s/\l=s.set.data:=by
 unfold dv at h;have main:∀b,(match aY w.zones b with|none=>none|some x=>(x.2.zone.sets.find? (is ⟨a,2⟩)).map λs=>s.set.data)=some l-> ∃x s,aY w.zones b=some x/\x.2.zone.sets.find? (is ⟨a,2⟩)=some s/\l=s.set.data:=λb h=>by
  cases hc:aY w.zones b with
  |none=>rw[hc]at h;cases h
  |some x =>
   rw[hc]at h;dsimp only at h;cases hf:x.2.zone.sets.find? (is ⟨a,2⟩)with
   |none=>rw[hf]at h;cases h
   |some s=>rw[hf]at h;exact⟨x,s,rfl,hf,by simpa using h.symm⟩
 by_cases ha:a=[46]
 . rw[if_pos ha]at h;obtain⟨x,s,h1,h2,h3⟩:=main a h;exact⟨a,x,s,.inl ⟨rfl,ha⟩,h1,h2,h3⟩
 . rw[if_neg ha]at h;cases hb:di w.zones a with
   |none=>rw[hb]at h;cases h
   |some b =>
    rw[hb]at h;obtain⟨x,s,h1,h2,h3⟩:=main b h;exact⟨b,x,s,.inr ⟨ha,rfl⟩,h1,h2,h3⟩
theorem FD{w:az}(hv:aN w=true){a:Bs}{l:List Datum}(h:dv w.zones a=some l):∀d∈l,pQ d:=by
 obtain⟨b,x,s,_,h2,h3,rfl⟩:=yH h;have hz:=(bB hv _ (dG h2).1).1;obtain⟨k1,_,k3⟩:=sG hz h3;exact zp ((dt.1 hz).ord.set s k1) k3
theorem wo{w:az}(hv:aN w=true){a:Bs}{l:List Datum}(h:dv w.zones a=some l):l.length<=8/\0<l.length/\ ∀d∈l,aq d.text=true:=by
 obtain⟨b,x,s,_,h2,h3,rfl⟩:=yH h;have hz:=(bB hv _ (dG h2).1).1;obtain⟨k1,_,k3⟩:=sG hz h3;have hs:=(dt.1 hz).ord.set s k1;exact⟨tr hs,Dm hs,Mr hs k3⟩
/-! ### The reference's findings -/
def EC(w:az)(z:aF):List Fnd:=if dv w.zones z.apex=some (mD z)then[]else[⟨4,z.apex,z.apex⟩]
def AB(w:az)(a n:Bs):List Fnd:=(if (bJ w n).length=0 then[⟨3,a,n⟩]else[])++((bJ w n).filter λd=> !bM w a d.n).map λ_=>⟨1,a,n⟩
def ED(w:az)(a:Bs)(s:Signed):List Fnd:=if s.set.data=bJ w s.set.name then[]else[⟨2,a,s.set.name⟩]
def xR(w:az)(z:aF):List Fnd:=EC w z++((dv w.zones z.apex).getD []).flatMap (λd=>AB w z.apex d.text)++(z.sets.filter (gq z)).flatMap (ED w z.apex)
def zi(w:az):List Fnd:=w.zones.flatMap λp=>match aY w.zones p.zone.apex with|some x=>xR w x.2.zone|none=>[]
theorem EE(w:az)(a n:Bs)(f:Fnd):f∈AB w a n ↔ f∈mv w a n:=by
 unfold AB mv;rw[List.mem_append,List.mem_append,CO];have h1:((bJ w n).map (·.n)).isEmpty=true ↔ (bJ w n).length=0:=by
  cases bJ w n <;> simp
 have h2:((bJ w n).map (·.n)).any (λn=> !bM w a n)=true ↔ ∃d∈bJ w n,bM w a d.n=false:=by
  simp
 have e1:(f∈if (bJ w n).length=0 then[(⟨3,a,n⟩:Fnd)]else[]) ↔ (f∈if ((bJ w n).map (·.n)).isEmpty=true then[(⟨3,a,n⟩:Fnd)]else[]):=by
  by_cases h:(bJ w n).length=0
  . rw[if_pos h,if_pos (h1.2 h)]
  . rw[if_neg h,if_neg (λe=>h (h1.1 e))]
 have e2:(f∈((bJ w n).filter λd=> !bM w a d.n).map λ_=>(⟨1,a,n⟩:Fnd)) ↔ (f∈if ((bJ w n).map (·.n)).any (λn=> !bM w a n)=true then[(⟨1,a,n⟩:Fnd)]else[]):=by
  rw[List.mem_map];by_cases h:((bJ w n).map (·.n)).any (λn=> !bM w a n)=true
  . rw[if_pos h,List.mem_singleton];obtain⟨d,hd,hs⟩:=h2.1 h;exact⟨λ⟨_,_,e⟩=>e.symm,λe=>⟨d,List.mem_filter.2 ⟨hd,by simp[hs]⟩,e.symm⟩⟩
  . rw[if_neg h];constructor
    . rintro⟨d,hd,_⟩;obtain⟨d1,d2⟩:=List.mem_filter.1 hd;exact absurd (h2.2 ⟨d,d1,by simpa using d2⟩) h
    . intro h;cases h
 rw[e1,e2]
theorem xS{w:az}(hF:cA w)(hv:aN w=true){p:ai}(hp:p∈w.zones)(f:Fnd):f∈xR w p.zone ↔ f∈oI w p.zone:=by
 have hz:=(bB hv p hp).1;unfold xR oI;rw[List.mem_append,List.mem_append,List.mem_append,List.mem_append];have hS:=tI hv (nx hp);have e1:EC w p.zone=ji w p.zone:=by
  unfold EC ji;rw[hS,Me hz];cases hd:dv w.zones p.zone.apex with
  |none=>simp
  |some l =>
   dsimp only;by_cases e:l=mD p.zone
   . rw[if_pos (by rw[e]),if_pos (by rw[e];simp)]
   . rw[if_neg (λh=>e (by simpa using h)),if_neg (λh=>e (BL (FD hv hd) (Md hz) (by simpa using h)))]
 have e2:(bx w.zones p.zone.apex).1=((dv w.zones p.zone.apex).getD []).map (·.text):=by
  rw[hS];cases dv w.zones p.zone.apex <;> rfl
 have e3:f∈(((dv w.zones p.zone.apex).getD []).flatMap λd=>AB w p.zone.apex d.text) ↔ f∈(bx w.zones p.zone.apex).1.flatMap (mv w p.zone.apex):=by
  rw[e2,List.mem_flatMap,List.mem_flatMap];constructor
  . rintro⟨d,hd,h⟩;exact⟨d.text,List.mem_map_of_mem hd,(EE _ _ _ _).1 h⟩
  . rintro⟨n,hn,h⟩;obtain⟨d,hd,rfl⟩:=List.mem_map.1 hn;exact⟨d,hd,(EE _ _ _ _).2 h⟩
 have e4:f∈(p.zone.sets.filter (gq p.zone)).flatMap (ED w p.zone.apex) ↔ f∈(p.zone.sets.filter (gq p.zone)).flatMap λs=>lD w p.zone.apex s.set:=by
  rw[List.mem_flatMap,List.mem_flatMap];refine exists_congr λs=>and_congr_right λhs=>?_
  obtain⟨h1,h2⟩:=List.mem_filter.1 hs;have ht:s.set.type=1:=by
   unfold gq at h2;simp only[ay,beq_iff_eq]at h2;exact h2.1
  have hpl:=yk ((dt.1 hz).ord.set s h1) ht;unfold ED lD;rw[CO];by_cases e:s.set.data=bJ w s.set.name
  . rw[if_pos e,if_pos (by rw[<- e];simp)]
  . rw[if_neg e,if_neg (λh=>e (Eh hpl (Fv hF hv _) (by simpa using Eq.symm (by simpa using h))))]
 rw[e1,e3,e4]
theorem JI{w:az}(hF:cA w)(hv:aN w=true)(f:Fnd):f∈zi w ↔ f∈findAll w:=by
 have C:=iY hv;unfold zi findAll;rw[List.mem_flatMap,List.mem_flatMap];constructor
 . rintro⟨p,hp,h⟩;cases hc:aY w.zones p.zone.apex with
   |none=>rw[hc]at h;cases h
   |some x =>
    rw[hc]at h;obtain⟨c1,c2,_⟩:=dG hc;exact⟨x.2,(C.mem x.2).2 (by rw[c2,hc];rfl),(xS hF hv c1 f).1 h⟩
 . rintro⟨p,hp,h⟩;have hm:=(C.mem p).1 hp;refine⟨p,C.sub p hp,?_⟩;cases hc:aY w.zones p.zone.apex with
   |none=>rw[hc]at hm;cases hm
   |some x =>
    rw[hc]at hm;have:x.2=p:=by simpa using hm
    dsimp only;rw[this];exact(xS hF hv (C.sub p hp) f).2 h
theorem Pf{w:az}(hF:cA w)(hv:aN w=true):mK (zi w)=rh w:=rE (JI hF hv)
/-! ### Worlds with the same copies -/
theorem wu{w:az}(hF:cA w)(hv:aN w=true)(f:Fnd):f∈findAll w ↔ ∃p,(aY w.zones p.zone.apex).map (·.2)=some p/\f∈xR w p.zone:=by
 have C:=iY hv;unfold findAll;rw[List.mem_flatMap];refine exists_congr λp=>?_
 rw[C.mem p];refine and_congr_right λh=>?_
 have hp:p∈w.zones:=by
  cases hc:aY w.zones p.zone.apex with
  |none=>rw[hc]at h;cases h
  |some x =>
   rw[hc]at h;have e:x.2=p:=by simpa using h
   rw[<- e];exact(dG hc).1
 exact(xS hF hv hp f).symm
theorem NR{z:aF}(hv:aW z=true):bT z z.apex=[]:=by
 have ho:=bA hv;unfold bT;cases hf:(cq z.apex z.sets).find? λc=>aD z.apex c with
 |none=>rfl
 |some c =>
  exfalso
  have h1:=List.mem_of_find?_eq_some hf;have h2:aD z.apex c=true:=by have:=List.find?_some hf;simpa using this
  obtain⟨s,hs,hi,he⟩:=(jX z.apex _ z.sets).1 h1;have hua:=ho.under s hs;unfold bq at hua;rw[if_pos ⟨ho.name s hs,ho.apex⟩,he]at hua;have:c=z.apex:=mL hua h2;unfold db at hi;rw[he,this]at hi;simp at hi
theorem wT{a:Bs}(h:aq a=true):bK ⟨a,4⟩=true:=by unfold bK;rw[h];rfl
theorem IB{w:az}(hF:cA w)(hv:aN w=true){a:Bs}(ha:aq a=true){K:Int}(hK:0<=K):((vk w.zones K ⟨a,4⟩).kind==1)=w.zones.any λp=>(p.zone.apex==a)&&(p.host==K):=by
 have hz:∀p∈w.zones,aW p.zone=true:=λp hp=>(bB hv p hp).1
 have hk:pV w.zones K ⟨a,4⟩=fj w.zones K a []:=rfl;unfold vk;rw[hk];have nz:∀p∈w.zones,p.zone.apex≠[]:=λp hp=>yf (dt.1 (hz p hp)).ord.apex
 cases hd:fj w.zones K a []with
 |none =>
  have hno:=((jT _ _ _).1 hd).2
  symm
  dsimp only;rw[show(((7:Int)==1)=false)from rfl,List.any_eq_false];intro p hp;simp only[ay,beq_iff_eq];rintro⟨h1,h2⟩;have:=hno p hp;rw[(gz hK).2 ⟨h2,nz p hp,by rw[h1];exact fI a⟩]at this;cases this
 |some x =>
  obtain⟨m1,m2,m3⟩:=sC hd;obtain⟨k1,k2,k3⟩:=(gz hK).1 m2;have hval:=hz _ m1;have u:Use x.2.zone ⟨a,4⟩:=⟨hF.few _ m1,hval,wT ha,k3⟩
  dsimp only;rw[Bool.eq_iff_iff,beq_iff_eq,u.Ti,List.any_eq_true];constructor
  . rintro⟨_,h2⟩;obtain⟨s,hs,hp⟩:=rR.1 h2;have hn:s.set.name=a:=congrArg Prod.fst hp;have ht:s.set.type=4:=congrArg Prod.snd hp;have hfit:=(dt.1 hval).fit s hs;rw[ht]at hfit;have:s.set.name=x.2.zone.apex:=by simpa [fits] using hfit
    exact⟨x.2,m1,by simp[<- this,hn,k1]⟩
  . rintro⟨p,hp,h⟩;simp only[ay,beq_iff_eq]at h;have hup:aD a p.zone.apex=true:=by rw[h.1];exact fI a
    have hkey:=m3 p hp ((gz hK).2 ⟨h.2,nz p hp,hup⟩);have hle:dP p.zone.apex<=dP x.2.zone.apex:=hkey;have hle2:dP x.2.zone.apex<=dP a:=by
     have:=((dy _ _).1 k3).length_le;rw[back_eq,back_eq,List.length_reverse,List.length_reverse]at this;unfold dP;omega
    have e:x.2.zone.apex=a:=by
     rw[h.1]at hle;exact xH k3 (fI a) (by omega)
    have hst:=(dt.1 hval).start;rw[e]at hst;refine⟨?_,hst⟩;rw[yg];have hc:bT x.2.zone a=[]:=by
     rw[<- e];exact NR hval
    show(!(bT x.2.zone a==[])&&_)=false
    rw[hc];rfl
theorem Rn{w:az}(hF:cA w)(hv:aN w=true){f:Fnd}:f∈rh w ↔ ∃p,(aY w.zones p.zone.apex).map (·.2)=some p/\f∈xR w p.zone:=by
 unfold rh;rw[lU,wu hF hv]
theorem GM{zs:List ai}{p:ai}(h:(aY zs p.zone.apex).map (·.2)=some p):p∈zs:=by
 cases hc:aY zs p.zone.apex with
 |none=>rw[hc]at h;cases h
 |some x =>
  rw[hc]at h;have e:x.2=p:=by simpa using h
  rw[<- e];exact(dG hc).1
theorem OO{w:az}{z:aF}{f:Fnd}:f∈EC w z ↔ f=⟨4,z.apex,z.apex⟩/\dv w.zones z.apex≠some (mD z):=by
 unfold EC;by_cases h:dv w.zones z.apex=some (mD z)
 . rw[if_pos h];simp[h]
 . rw[if_neg h];simp[h]
theorem OP{w:az}{a n:Bs}{f:Fnd}:f∈AB w a n ↔ (f=⟨3,a,n⟩/\bJ w n=[])\/(f=⟨1,a,n⟩/\ ∃d∈bJ w n,bM w a d.n=false):=by
 unfold AB;rw[List.mem_append,List.mem_map];refine or_congr ?_ ?_
 . by_cases h:bJ w n=[]
   . simp[h]
   . rw[if_neg (λe=>h (List.eq_nil_of_length_eq_zero e))];simp[h]
 . constructor
   . rintro⟨d,hd,rfl⟩;obtain⟨h1,h2⟩:=List.mem_filter.1 hd;exact⟨rfl,d,h1,by simpa using h2⟩
   . rintro⟨rfl,d,h1,h2⟩;exact⟨d,List.mem_filter.2 ⟨h1,by simp[h2]⟩,rfl⟩
theorem Ea{w:az}{a:Bs}{s:Signed}{f:Fnd}:f∈ED w a s ↔ f=⟨2,a,s.set.name⟩/\s.set.data≠bJ w s.set.name:=by
 unfold ED;by_cases h:s.set.data=bJ w s.set.name
 . rw[if_pos h];simp[h]
 . rw[if_neg h];simp[h]
theorem Ec{w:az}{z:aF}{f:Fnd}:f∈xR w z ↔ (f=⟨4,z.apex,z.apex⟩/\dv w.zones z.apex≠some (mD z)) \/
 (∃d∈(dv w.zones z.apex).getD [],(f=⟨3,z.apex,d.text⟩/\bJ w d.text=[])\/(f=⟨1,z.apex,d.text⟩/\ ∃x∈bJ w d.text,bM w z.apex x.n=false)) \/
 (∃s∈z.sets,gq z s=true/\f=⟨2,z.apex,s.set.name⟩/\s.set.data≠bJ w s.set.name):=by
 unfold xR;rw[List.mem_append,List.mem_append,List.mem_flatMap,List.mem_flatMap,OO,or_assoc];refine or_congr Iff.rfl (or_congr ?_ ?_)
 . exact exists_congr λd=>and_congr_right λ_=>OP
 . constructor
   . rintro⟨s,hs,h⟩;obtain⟨h1,h2⟩:=List.mem_filter.1 hs;obtain⟨h3,h4⟩:=Ea.1 h;exact⟨s,h1,h2,h3,h4⟩
   . rintro⟨s,h1,h2,h3,h4⟩;exact⟨s,List.mem_filter.2 ⟨h1,h2⟩,Ea.2 ⟨h3,h4⟩⟩
theorem Om{w:az}(hF:cA w)(hv:aN w=true){f:Fnd}(h:f∈rh w):∃p,(aY w.zones f.zone).map (·.2)=some p/\p∈w.zones/\p.zone.apex=f.zone /\
 ((f.kind=4/\f.name=f.zone/\dv w.zones f.zone≠some (mD p.zone)) \/
  (f.kind=3/\bJ w f.name=[])\/(f.kind=1/\ ∃x∈bJ w f.name,bM w f.zone x.n=false) \/
  (f.kind=2/\ ∃s∈p.zone.sets,gq p.zone s=true/\f.name=s.set.name/\s.set.data≠bJ w f.name)):=by
 obtain⟨p,hp,h⟩:=(Rn hF hv).1 h;have hm:=GM hp;rcases Ec.1 h with ⟨rfl,h3⟩|⟨d,_,⟨rfl,h3⟩|⟨rfl,h3⟩⟩|⟨s,h1,h2,rfl,h4⟩
 . exact⟨p,hp,hm,rfl,.inl ⟨rfl,rfl,h3⟩⟩
 . exact⟨p,hp,hm,rfl,.inr (.inl ⟨rfl,h3⟩)⟩
 . exact⟨p,hp,hm,rfl,.inr (.inr (.inl ⟨rfl,h3⟩))⟩
 . exact⟨p,hp,hm,rfl,.inr (.inr (.inr ⟨rfl,s,h1,h2,rfl,h4⟩))⟩
end NP
namespace NQ
open Go
def App(X:St->Prop)(s:St):Prop:=X s
theorem um{α:Type}{G:Prop}{P:α->Prop}{canon:α->St}{X:St->Prop}(h1:(∀a,P a->App X (canon a))->G)(h2:∀a,P a->App X (canon a)):G:=h1 h2
theorem iG{cx:Cx}{st st1:St}{X:St->Prop}(hw:aj cx st st1)(h:App X st1):∃st',aj cx st st' /\X st' :=⟨st1,hw,h⟩
end NQ
namespace NP
open NQ Go
theorem oD{l:List Fnd}{f:Fnd}(h:l.Nodup):(mT l f).Nodup:=by
 unfold mT;split
 . exact h
 . rename_i hn;refine List.nodup_append.2 ⟨h,by simp,λa ha b hb e=>?_⟩;rw[List.mem_singleton]at hb;subst e;subst hb;exact hn (dw.2 ha)
theorem IL{w:az}{a s:Bs}{e y:Bool}(he:(cM w s).isEmpty=e)(hy:((cM w s).any λn=> !bM w a n)=y):mv w a s=(if e=true then[⟨3,a,s⟩]else[])++(if y=true then[⟨1,a,s⟩]else[]):=by unfold mv;rw[he,hy]
theorem nB{α β:Type}{f:α->List β}{c:Nat}:∀{l:List α},(∀x∈l,(f x).length<=c)->(l.flatMap f).length<=c*l.length
 |[],_=>Nat.zero_le _
 |x::t,h=>by
  have h1:=h x (List.mem_cons_self ..);have h2:=nB (f:=f) (c:=c) (l:=t) λy hy=>h y (aK _ hy)
  rw[List.flatMap_cons,List.length_append,List.length_cons,Nat.mul_succ];omega
theorem wQ{w:az}(hv:aN w=true){p:ai}(hp:p∈w.zones):(bx w.zones p.zone.apex).1.length<=8/\ ∀s∈(bx w.zones p.zone.apex).1,aq s=true:=by
 rw[tI hv (nx hp)];cases hd:dv w.zones p.zone.apex with
 |none=>exact⟨Nat.zero_le _,λs hs=>by cases hs⟩
 |some l =>
  obtain⟨h1,_,h3⟩:=wo hv hd;refine⟨by show(l.map _).length<=8;rw[ak];exact h1,λs hs=>?_⟩;obtain⟨d,hd,rfl⟩:=List.mem_map.1 hs;exact h3 d hd
theorem Lh{w:az}(hF:cA w)(hv:aN w=true){p:ai}(hp:p∈w.zones):(oI w p.zone).length<=117:=by
 unfold oI;rw[List.length_append,List.length_append];have h1:(ji w p.zone).length<=1:=by unfold ji;split <;> simp
 have h2:=nB (f:=mv w p.zone.apex) (c:=2) (l:=(bx w.zones p.zone.apex).1) λs _=>by
  unfold mv;rw[List.length_append];split <;> split <;> simp
 have h3:=nB (f:=λs:Signed=>lD w p.zone.apex s.set) (c:=1) (l:=p.zone.sets.filter (gq p.zone)) λs _=>by
  show(lD w p.zone.apex s.set).length<=1
  unfold lD;split <;> simp
 have h4:=(wQ hv hp).1;have h5:=(cS (hF.few p hp)).1;have h6:=List.length_filter_le (gq p.zone) p.zone.sets;omega
theorem wx{w:az}(hF:cA w)(hv:aN w=true)(hz:w.zones.length<=100):(findAll w).length<=11700:=by
 have h1:=nB (f:=λp:ai=>oI w p.zone) (c:=117) (l:=eT w.zones) λp hp=>Lh hF hv ((iY hv).sub p hp)
 have h2:=zY w.zones;unfold findAll;have:117*(eT w.zones).length<=117*100:=Nat.mul_le_mul_left _ (by omega);omega
theorem Lp{w:az}(hF:cA w)(hv:aN w=true){f:Fnd}(h:f∈findAll w):aq f.zone=true/\aq f.name=true:=by
 obtain⟨p,hp,h⟩:=(wu hF hv f).1 h;have hm:=GM hp;have V:=dt.1 (bB hv p hm).1;have ha:=V.ord.apex;rcases Ec.1 h with ⟨rfl,h⟩|⟨d,hd,h⟩|⟨s,h1,h2,rfl,h4⟩
 . exact⟨ha,ha⟩
 . have hdv:aq d.text=true:=by
    cases hl:dv w.zones p.zone.apex with
    |none=>rw[hl]at hd;cases hd
    |some l=>rw[hl]at hd;exact(wo hv hl).2.2 d hd
   rcases h with ⟨rfl,_⟩|⟨rfl,_⟩
   . exact⟨ha,hdv⟩
   . exact⟨ha,hdv⟩
 . exact⟨ha,V.ord.name s h1⟩
theorem uU{α β:Type}(f:α->β):∀(l:List α) (i:Nat),(l.map f).eraseIdx i=(l.eraseIdx i).map f
 |[],_=>rfl
 |_::_,0=>rfl
 |x::t,i+1=>by
  show f x::(t.map f).eraseIdx i=f x::(t.eraseIdx i).map f
  rw[uU f t i]
structure Qr(w:az)(L:List ai)(m:List (Bs×List Int))(l:List Fnd):Prop where
 sub:∀p∈L,p∈eT w.zones
 cache:kJ w m
 nodup:l.Nodup
 all:∀f,(f∈l\/f∈L.flatMap λp=>oI w p.zone) ↔ f∈findAll w
theorem Ay{β:Type}{f:ai->List β}{L:List ai}{i:Nat}{p:ai}(hp:L[i]? =some p)(x:β):x∈L.flatMap f ↔ x∈f p\/x∈(L.eraseIdx i).flatMap f:=by
 have h:=sD hp;rw[<- (h.flatMap_right f).mem_iff,List.flatMap_cons,List.mem_append]
end NP
namespace Go.Proofs.YtmaepddmaghpjaaGreatDoor
open NQ Go NP Go.RowKit
def Tx:Nat->List Nat
 |1000=>[44444]
 |5=>[44444,88888]
 |6=>[88888]
 |7=>[88888]
 |8=>[6,7]
 |9=>[44444,88888]
 |11=>[88888]
 |12=>[55555]
 |15=>[88888]
 |17=>[88888]
 |18=>[55555]
 |19=>[88888]
 |23=>[66666]
 |24=>[88888]
 |25=>[20]
 |_=>[]
def vP(a:Bs):AV:= .fn 22 [] [.ptr 100005 0,.d (.ptr [.str a])]
def hN2(a:Bs)(l:List Fnd):List (Nat×Blk):=[(100005,.box [.omap 20]),(20,.kmap (cY l)),(300008,.box [vP a])]
theorem nX(l:List Fnd)(kind:Int)(s a:Bs):FnH cxF 22 [.d (.int .i64 kind),.d (.str s),.ptr 100005 0,.d (.ptr [.str a])] (hN2 a l) (.tuple []) (hN2 a (mT l ⟨kind,a,s⟩)):=by
 have hput:=GR (f:=⟨kind,a,s⟩) (l:=l);refine mw (λ_=>[]) tyF pL Tryz.func22 (by kernel_rfl) rfl (ag rfl) (ag rfl) ?_
 conv=>whnf
 refine⟨_,hput,?_⟩
 conv=>whnf
 exact⟨[],aj.keep trivial ⟨⟨rfl,rfl⟩,⟨rfl,rfl⟩,⟨rfl,rfl⟩,trivial⟩,rfl⟩
@[reducible] def stF (w:az) (z:aF) (S:List Bs) (left:List (List D×D)) (cur:Option (List D×D)) (m:List (Bs×List Int)) (l:List Fnd):St :=
 ⟨[(4,.ptr 100004 0),(5,.ptr 100005 0),(6,.d (.ptr [.str z.apex])),(7,.d (.ptr (aT z))),(8,.ptr 300008 0),(9,.d (.slice 1 (S.map aL))),(23,.ptr 200023 0)],[(100004,.box (cP w 18)),(18,.smap (cB m)),(100005,.box [.omap 20]),(20,.kmap (cY l)),(300008,.box [vP z.apex]),(200023,.iter left cur)]⟩
@[reducible] def stS (w:az) (z:aF) (S:List Bs) (k:Nat) (s:Bs) (AD:List Int) (left:List (List D×D)) (cur:Option (List D×D)) (m:List (Bs×List Int)) (l:List Fnd):St :=
 ⟨[(4,.ptr 100004 0),(5,.ptr 100005 0),(6,.d (.ptr [.str z.apex])),(7,.d (.ptr (aT z))),(8,.ptr 300008 0),(12,.d (.str s)),(13,.d (.slice 1 (AD.map ba))),(49,.d (.slice 1 (S.map aL))),(50,.d (.int .i64 ((S.map aL).length:Int))),(51,.d (.int .i64 k)),(23,.ptr 200023 0)],[(100004,.box (cP w 18)),(18,.smap (cB m)),(100005,.box [.omap 20]),(20,.kmap (cY l)),(300008,.box [vP z.apex]),(200023,.iter left cur)]⟩
set_option maxHeartbeats 4000000 in
theorem Dy(w:az)(hF:cA w)(hv:aN w=true)(hz:w.zones.length<=100):NQ.Fn cx 6 [.agg (aZ w)] (.tuple [.d (.slice 3 ((rh w).map cr)),.d (.int .i64 0)]) []:=by
 show NQ.Fn cxF _ _ _ _
 have fV:=qJ w hF;rw[hv]at fV;have fC:=uY w hF hv;refine uH Tx tyF pL Tryz.func6 (by kernel_rfl) rfl (ag rfl) ?_
 conv=>whnf
 (refine⟨_,_,fV,?_⟩;conv=>whnf)
 (refine⟨_,_,fC,?_⟩;conv=>whnf)
 refine⟨⟨[(4,.ptr 100004 0),(5,.ptr 100005 0)],[(100004,.box (cP w 18)),(18,.smap (cB [])),(100005,.box [.omap 20]),(20,.kmap (cY []))]⟩,(gy.ren [4,5] (by kernel_rfl)).trans (aj.zero (aj.keep ⟨⟨(by kernel_rfl),(by kernel_rfl)⟩,⟨(by kernel_rfl),(by kernel_rfl)⟩,trivial⟩ ⟨⟨(by kernel_rfl),(by kernel_rfl)⟩,⟨(by kernel_rfl),(by kernel_rfl)⟩,⟨(by kernel_rfl),(by kernel_rfl)⟩,⟨(by kernel_rfl),(by kernel_rfl)⟩,trivial⟩)),?_⟩
 conv=>whnf
 refine⟨⟨[(4,.ptr 100004 0),(5,.ptr 100005 0),(23,.ptr 200023 0)],[(100004,.box (cP w 18)),(18,.smap (cB [])),(100005,.box [.omap 20]),(20,.kmap (cY [])),(200023,.iter ((bU (eT w.zones)).map cE) none)]⟩,(gy.pS 200000 [23] (by kernel_rfl)).trans (aj.zero (aj.keep ⟨⟨(by kernel_rfl),(by kernel_rfl)⟩,⟨(by kernel_rfl),(by kernel_rfl)⟩,⟨(by kernel_rfl),(by kernel_rfl)⟩,trivial⟩ ⟨⟨(by kernel_rfl),(by kernel_rfl)⟩,⟨(by kernel_rfl),(by kernel_rfl)⟩,⟨(by kernel_rfl),(by kernel_rfl)⟩,⟨(by kernel_rfl),(by kernel_rfl)⟩,⟨(by kernel_rfl),(by kernel_rfl)⟩,trivial⟩)),?_⟩
 conv=>whnf
 refine⟨List ai×Option (List D×D)×List (Bs×List Int)×List Fnd,λx=>⟨[(4,.ptr 100004 0),(5,.ptr 100005 0),(23,.ptr 200023 0)],[(100004,.box (cP w 18)),(18,.smap (cB x.2.2.1)),(100005,.box [.omap 20]),(20,.kmap (cY x.2.2.2)),(200023,.iter ((bU x.1).map cE) x.2.1)]⟩,
  λx=>Qr w x.1 x.2.2.1 x.2.2.2,λx=>x.1.length,
  ⟨(eT w.zones,none,[],[]),⟨λp hp=>hp,(λp hp=>by cases hp),List.nodup_nil,λf=>by simp[findAll]⟩,aj.keep ⟨ab,ab,ab,trivial⟩ ⟨ab,ab,ab,ab,ab,trivial⟩⟩,λ⟨L,cur,m,l⟩ K=>?_⟩
 dsimp only at K ⊢
 conv=>whnf
 refine⟨λhnil=>?_,λi kk y hy=>?_⟩
 . have hL:L=[]:=by
    unfold bU at hnil;simpa using hnil
   have hall:∀f,f∈l ↔ f∈findAll w:=λf=>by
    have:=K.all f;rw[hL]at this;simpa using this
   have hlen:l.length<=100000:=by
    have h1:=qs K.nodup λf hf=>(hall f).1 hf
    have h2:=wx hF hv hz;omega
   have fS:=JX l K.nodup (λf hf=>Lp hF hv ((hall f).1 hf)) hlen;rw[rE hall]at fS
   conv=>whnf
   (refine⟨_,_,OG l,?_⟩;conv=>whnf)
   (refine⟨_,_,fS,?_⟩;conv=>whnf)
   exact af rfl rfl
 . obtain⟨p,hp,hpe⟩:∃p,L[i]? =some p/\cE (p.zone.apex,.agg (aT p.zone))=(kk,y):=by
    rw[aM]at hy;unfold bU at hy;rw[aM]at hy;cases hL:L[i]? with
    |none=>rw[hL]at hy;cases hy
    |some p=>rw[hL]at hy;exact⟨p,rfl,by simpa using hy⟩
   cases hpe;have hpm:=(iY hv).sub p (K.sub p (ao hp));have hvz:=(bB hv p hpm).1;have hval:aq p.zone.apex=true:=(dt.1 hvz).ord.apex;have hfz:=cS (hF.few p hpm);have hpl:=(ar.1 hp).1
   conv=>whnf
   refine⟨⟨[(4,.ptr 100004 0),(5,.ptr 100005 0),(6,.d (.ptr [.str p.zone.apex])),(7,.d (.ptr (aT p.zone))),(8,.ptr 300008 0),(23,.ptr 200023 0)],[(100004,.box (cP w 18)),(18,.smap (cB m)),(100005,.box [.omap 20]),(20,.kmap (cY l)),(300008,.box [vP p.zone.apex]),(200023,.iter ((bU L).map cE |>.eraseIdx i) (some (cE (p.zone.apex,.agg (aT p.zone)))))]⟩,
    (gy.pS 300000 [8] (by kernel_rfl)).trans (aj.zero (aj.keep ⟨⟨(by kernel_rfl),(by kernel_rfl)⟩,⟨(by kernel_rfl),(by kernel_rfl)⟩,⟨(by kernel_rfl),(by kernel_rfl)⟩,⟨(by kernel_rfl),(by kernel_rfl)⟩,⟨(by kernel_rfl),(by kernel_rfl)⟩,⟨(by kernel_rfl),(by kernel_rfl)⟩,trivial⟩ ⟨⟨(by kernel_rfl),(by kernel_rfl)⟩,⟨(by kernel_rfl),(by kernel_rfl)⟩,⟨(by kernel_rfl),(by kernel_rfl)⟩,⟨(by kernel_rfl),(by kernel_rfl)⟩,⟨(by kernel_rfl),(by kernel_rfl)⟩,⟨(by kernel_rfl),(by kernel_rfl)⟩,trivial⟩)),?_⟩
   conv=>whnf
   refine⟨[100005,20,200023,300008],_,_,EL w m p.zone.apex hF hv hval,⟨⟨by kernel_rfl,by kernel_rfl⟩,by kernel_rfl,by kernel_rfl,by kernel_rfl⟩,?_⟩;obtain⟨hS8,hSv⟩:=wQ hv hpm;have hB:ji w p.zone=if ((bx w.zones p.zone.apex).2&&((bx w.zones p.zone.apex).1==bR p.zone p.zone.apex))=true then[]else[⟨4,p.zone.apex,p.zone.apex⟩]:=rfl
   have hZ:oI w p.zone=ji w p.zone++(bx w.zones p.zone.apex).1.flatMap (mv w p.zone.apex)++(p.zone.sets.filter (gq p.zone)).flatMap λs=>lD w p.zone.apex s.set:=rfl
   have hfl:=λf=>(Ay (f:=λp=>oI w p.zone) hp f)
   generalize hserv:bx w.zones p.zone.apex=SR at *
   obtain⟨S,ok⟩:=SR;dsimp only at hS8 hSv hB hZ
   conv=>whnf
   apply um (α:=List Fnd) (P:=λl1=>l1.Nodup/\ ∀f,f∈l1 ↔ f∈l\/f∈ji w p.zone)
    (canon:=λl1=>stF w p.zone S ((bU L).map cE |>.eraseIdx i) (some (cE (p.zone.apex,.agg (aT p.zone)))) m l1)
   case h1 =>
    intro rest;have hPno:ji w p.zone=[]->l.Nodup/\ ∀f,f∈l ↔ f∈l\/f∈ji w p.zone:=λe=>⟨K.nodup,λf=>by rw[e];simp⟩
    have hPyes:ji w p.zone=[⟨4,p.zone.apex,p.zone.apex⟩]->(mT l ⟨4,p.zone.apex,p.zone.apex⟩).Nodup/\ ∀f,f∈mT l ⟨4,p.zone.apex,p.zone.apex⟩ ↔ f∈l\/f∈ji w p.zone:=λe=>⟨oD K.nodup,λf=>by rw[e,sU,List.mem_singleton]⟩
    cases ok with
    |false =>
     have e:ji w p.zone=[⟨4,p.zone.apex,p.zone.apex⟩]:=by rw[hB];rfl
     conv=>whnf
     refine⟨[100004,18,200023],_,_,nX l 4 p.zone.apex p.zone.apex,⟨⟨by kernel_rfl,by kernel_rfl⟩,by kernel_rfl,by kernel_rfl,by kernel_rfl⟩,?_⟩
     conv=>whnf
     exact iG (st1:=stF w p.zone S ((bU L).map cE |>.eraseIdx i) (some (cE (p.zone.apex,.agg (aT p.zone)))) m _) (aj.keep ⟨ab,ab,ab,ab,ab,ab,ab,trivial⟩ ⟨ab,ab,ab,ab,ab,ab,trivial⟩) (rest _ (hPyes e))
    |true =>
     conv=>whnf
     (refine⟨_,_,nU p.zone p.zone.apex (by omega) (λs hs=>by have:=(hfz.2 s hs).1;omega),?_⟩;conv=>whnf)
     (refine⟨_,_,Lf S (bR p.zone p.zone.apex) (by omega),?_⟩;conv=>whnf)
     cases he:(S==bR p.zone p.zone.apex)with
     |true =>
      have e:ji w p.zone=[]:=by rw[hB,he];rfl
      conv=>whnf
      exact iG (st1:=stF w p.zone S ((bU L).map cE |>.eraseIdx i) (some (cE (p.zone.apex,.agg (aT p.zone)))) m _) (aj.keep ⟨ab,ab,ab,ab,ab,ab,ab,trivial⟩ ⟨ab,ab,ab,ab,ab,ab,trivial⟩) (rest _ (hPno e))
     |false =>
      have e:ji w p.zone=[⟨4,p.zone.apex,p.zone.apex⟩]:=by rw[hB,he];rfl
      conv=>whnf
      refine⟨[100004,18,200023],_,_,nX l 4 p.zone.apex p.zone.apex,⟨⟨by kernel_rfl,by kernel_rfl⟩,by kernel_rfl,by kernel_rfl,by kernel_rfl⟩,?_⟩
      conv=>whnf
      exact iG (st1:=stF w p.zone S ((bU L).map cE |>.eraseIdx i) (some (cE (p.zone.apex,.agg (aT p.zone)))) m _) (aj.keep ⟨ab,ab,ab,ab,ab,ab,ab,trivial⟩ ⟨ab,ab,ab,ab,ab,ab,trivial⟩) (rest _ (hPyes e))
   case h2 =>
    rintro l1 ⟨hn1,hl1⟩;show lh _ _ _ _ _ _ _
    conv=>whnf
    refine ⟨Nat × List (Bs × List Int) × List Fnd, fun x => ⟨[(4, .ptr 100004 0), (5, .ptr 100005 0), (6, .d (.ptr [.str p.zone.apex])), (7, .d (.ptr (aT p.zone))), (8, .ptr 300008 0), (49, .d (.slice 1 (S.map aL))), (50, .d (.int .i64 ((S.map aL).length : Int))), (51, .d (.int .i64 x.1)), (23, .ptr 200023 0)],
        [(100004,.box (cP w 18)),(18,.smap (cB x.2.1)),(100005,.box [.omap 20]),(20,.kmap (cY x.2.2)),(300008,.box [vP p.zone.apex]),(200023,.iter ((bU L).map cE |>.eraseIdx i) (some (cE (p.zone.apex,.agg (aT p.zone)))))]⟩,
     λx=>x.1<=S.length/\kJ w x.2.1/\x.2.2.Nodup/\ ∀f,f∈x.2.2 ↔ f∈l1\/f∈(S.take x.1).flatMap (mv w p.zone.apex),λx=>S.length-x.1,
     ⟨(0,m,l1),⟨Nat.zero_le _,K.cache,hn1,λf=>by simp⟩,aj.keep ⟨ab,ab,ab,ab,ab,ab,ab,ab,ab,trivial⟩ ⟨ab,ab,ab,ab,ab,ab,trivial⟩⟩,λ⟨k,m2,l2⟩ ⟨hk,hm2,hn2,hl2⟩=>?_⟩
    dsimp only at hk hm2 hn2 hl2 ⊢
    conv=>whnf
    refine ae (λh1=>?_) (λh1=>?_) <;> (rw[h1];conv=>whnf)
    . have hlt:k<S.length:=by simpa using h1
      obtain⟨s,hs⟩:∃s,S[k]? =some s:=⟨_,ah hlt⟩
      have hAl:=xe hF s;have hm3:=ub hm2 s;have hfs:∀{e y:Bool},(cM w s).isEmpty=e->((cM w s).any λn=> !bM w p.zone.apex n)=y->mv w p.zone.apex s=(if e=true then[⟨3,p.zone.apex,s⟩]else[])++(if y=true then[⟨1,p.zone.apex,s⟩]else[]):=λhe hy=>IL he hy
      refine⟨aw k,aL s,aG hs,?_⟩
      conv=>whnf
      refine⟨[100005,20,300008,200023],_,_,rI w m2 s hF hv hm2,⟨⟨by kernel_rfl,by kernel_rfl⟩,by kernel_rfl,by kernel_rfl,by kernel_rfl⟩,?_⟩;generalize jU w m2 s=m3 at *
      generalize cM w s=AD at *
      conv=>whnf
      apply um (α:=List Fnd) (P:=λl3=>l3.Nodup/\ ∀f,f∈l3 ↔ f∈l2\/f∈(if AD.isEmpty=true then[(⟨3,p.zone.apex,s⟩:Fnd)]else[]))
       (canon:=λl3=>stS w p.zone S k s AD ((bU L).map cE |>.eraseIdx i) (some (cE (p.zone.apex,.agg (aT p.zone)))) m3 l3)
      case h1 =>
       intro rest;refine ae (λh2=>?_) (λh2=>?_) <;> (rw[h2];conv=>whnf)
       . have he:AD.isEmpty=true:=by
          have h3:((AD.map ba).length:Int)=0:=by simpa using h2
          rw[ak]at h3;rw[List.isEmpty_iff_length_eq_zero];omega
         refine⟨[100004,18,200023],_,_,nX l2 3 s p.zone.apex,⟨⟨by kernel_rfl,by kernel_rfl⟩,by kernel_rfl,by kernel_rfl,by kernel_rfl⟩,?_⟩
         conv=>whnf
         exact iG (st1:=stS w p.zone S k s AD ((bU L).map cE |>.eraseIdx i) (some (cE (p.zone.apex,.agg (aT p.zone)))) m3 _) (aj.keep ⟨ab,ab,ab,ab,ab,ab,ab,ab,ab,ab,ab,trivial⟩ ⟨ab,ab,ab,ab,ab,ab,trivial⟩) (rest (mT l2 ⟨3,p.zone.apex,s⟩) ⟨oD hn2,λf=>by rw[sU,he,if_pos rfl,List.mem_singleton]⟩)
       . have he:AD.isEmpty=false:=by
          have h3:((AD.map ba).length:Int)≠0:=by first|exact beq_eq_false_iff_ne.1 h2|exact of_decide_eq_false h2
          cases AD with
          |nil=>exact absurd rfl h3
          |cons _ _=>rfl
         exact iG (st1:=stS w p.zone S k s AD ((bU L).map cE |>.eraseIdx i) (some (cE (p.zone.apex,.agg (aT p.zone)))) m3 _) (aj.keep ⟨ab,ab,ab,ab,ab,ab,ab,ab,ab,ab,ab,trivial⟩ ⟨ab,ab,ab,ab,ab,ab,trivial⟩) (rest l2 ⟨hn2,λf=>by rw[if_neg (λe=>by rw[he]at e;cases e)];simp⟩)
      case h2 =>
       rintro l3 ⟨hn3,hl3⟩;show lh _ _ _ _ _ _ _
       conv=>whnf
       (refine⟨_,Ie w m3 p.zone.apex AD hAl,rfl,?_⟩;conv=>whnf)
       cases hy:(AD.any λn=> !bM w p.zone.apex n)with
       |true =>
        conv=>whnf
        refine⟨[100004,18,200023],_,_,nX l3 1 s p.zone.apex,⟨⟨by kernel_rfl,by kernel_rfl⟩,by kernel_rfl,by kernel_rfl,by kernel_rfl⟩,?_⟩
        conv=>whnf
        refine⟨(k+1,m3,mT l3 ⟨1,p.zone.apex,s⟩),⟨hlt,hm3,oD hn3,λf=>?_⟩,by(show S.length-(k+1)<S.length-k;omega),aj.keep ⟨ab,ab,ab,ab,ab,ab,ab,⟨an (by omega),rfl⟩,ab,trivial⟩ ⟨ab,ab,ab,ab,ab,ab,trivial⟩⟩;rw[sU,hl3,hl2,bj hs,List.flatMap_append,List.mem_append,List.flatMap_cons,List.flatMap_nil,List.append_nil,hfs rfl hy,List.mem_append,if_pos rfl,List.mem_singleton,or_assoc,or_assoc]
       |false =>
        conv=>whnf
        refine⟨(k+1,m3,l3),⟨hlt,hm3,hn3,λf=>?_⟩,by(show S.length-(k+1)<S.length-k;omega),aj.keep ⟨ab,ab,ab,ab,ab,ab,ab,⟨an (by omega),rfl⟩,ab,trivial⟩ ⟨ab,ab,ab,ab,ab,ab,trivial⟩⟩;rw[hl3,hl2,bj hs,List.flatMap_append,List.mem_append,List.flatMap_cons,List.flatMap_nil,List.append_nil,hfs rfl hy,List.mem_append,if_neg (show ¬(false=true) by simp),or_assoc];simp
    . obtain rfl:k=S.length:=by simp at h1;omega
      rw[List.take_length]at hl2
      (refine⟨_,_,QV p.zone (by omega),?_⟩;conv=>whnf)
      refine⟨64,_,As (eJ (eC p.zone) p.zone.sets),[(4,.ptr 100004 0),(5,.ptr 100005 0),(6,.d (.ptr [.str p.zone.apex])),(8,.ptr 300008 0),(23,.ptr 200023 0),(72,.d (.fn 64 [] [.ptr (aT p.zone),.ptr [Ij p.zone]]))],
       List (Bs×List Int)×List Fnd,(m2,l2),λ(j:Nat) y=>[(100004,.box (cP w 18)),(18,.smap (cB y.1)),(100005,.box [.omap 20]),(20,.kmap (cY y.2)),(300008,.box [vP p.zone.apex]),(200023,.iter ((bU L).map cE |>.eraseIdx i) (some (cE (p.zone.apex,.agg (aT p.zone)))))],
       [100004,100005,300008,200023],λ(j:Nat) y=>kJ w y.1/\y.2.Nodup/\ ∀f,f∈y.2 ↔ f∈l2\/f∈((p.zone.sets.filter (eC p.zone)).take j).flatMap λs=>lD w p.zone.apex s.set,
       aj.zero (aj.keep ⟨ab,ab,ab,ab,ab,ab,trivial⟩ ⟨ab,ab,ab,ab,ab,ab,trivial⟩),⟨rfl,Lw p.zone hvz (by omega),λk x k' hx=>?_,rfl,rfl⟩,⟨ag rfl,PX (by kernel_rfl),rfl,by kernel_rfl⟩,⟨hm2,hn2,λf=>by simp⟩,?_,?_⟩
      . obtain⟨s,_,rfl⟩:=List.mem_map.1 (ao hx.1);rfl
      . rintro j x j' ⟨m3,l3⟩ ⟨hx,rfl⟩ ⟨hm3,hn3,hl3⟩;dsimp only at hm3 hn3 hl3;obtain⟨s,hs,rfl⟩:∃s,(p.zone.sets.filter (eC p.zone))[j]? =some s/\x=[.agg (mG s.set)]:=by
         unfold eJ at hx;rw[aM]at hx;cases h:(p.zone.sets.filter (eC p.zone))[j]? with
         |none=>rw[h]at hx;cases hx
         |some s=>rw[h]at hx;cases hx;exact⟨s,rfl,rfl⟩
        have hsm:=(List.mem_filter.1 (ao hs)).1;have hsd:=(hfz.2 s hsm).1;have hAl:=xe hF s.set.name;have hm4:=ub hm3 s.set.name;have hG:lD w p.zone.apex s.set=if (cM w s.set.name==List.map (λx:Datum=>x.n) s.set.data)=true then[]else[⟨2,p.zone.apex,s.set.name⟩]:=rfl
        have hfold:∀f,f∈((p.zone.sets.filter (eC p.zone)).take (j+1)).flatMap (λs=>lD w p.zone.apex s.set) ↔ f∈((p.zone.sets.filter (eC p.zone)).take j).flatMap (λs=>lD w p.zone.apex s.set)\/f∈lD w p.zone.apex s.set:=λf=>by
         rw[bj hs,List.flatMap_append,List.mem_append,List.flatMap_cons,List.flatMap_nil,List.append_nil]
        conv=>whnf
        (refine⟨(by kernel_rfl:kL _=true),?_⟩;conv=>whnf)
        refine⟨[100005,20,300008,200023,14],_,_,rI w m3 s.set.name hF hv hm3,⟨⟨by kernel_rfl,by kernel_rfl⟩,by kernel_rfl,by kernel_rfl,by kernel_rfl⟩,?_⟩;generalize jU w m3 s.set.name=m4 at *
        generalize cM w s.set.name=AD at *
        (repeat (refine⟨by kernel_rfl,?_⟩));conv=>whnf
        (refine⟨_,_,mC s.set (by omega),?_⟩;conv=>whnf)
        (repeat (refine⟨by kernel_rfl,?_⟩));conv=>whnf
        (refine⟨_,_,Le AD (List.map (λx:Datum=>x.n) s.set.data) (by omega),?_⟩;conv=>whnf)
        (repeat (refine⟨by kernel_rfl,?_⟩));conv=>whnf
        cases he:(AD==List.map (λx:Datum=>x.n) s.set.data)with
        |true =>
         rw[he,if_pos rfl]at hG
         conv=>whnf
         refine⟨(m4,l3),⟨aj.keep trivial ⟨⟨rfl,rfl⟩,⟨rfl,rfl⟩,⟨rfl,rfl⟩,⟨rfl,rfl⟩,⟨rfl,rfl⟩,⟨rfl,rfl⟩,trivial⟩,DY (by kernel_rfl)⟩,hm4,hn3,λf=>?_⟩;dsimp only;rw[hl3,hfold,hG];simp
        |false =>
         rw[he,if_neg (by simp)]at hG
         conv=>whnf
         refine⟨[100004,18,200023,14],_,_,nX l3 2 s.set.name p.zone.apex,⟨⟨by kernel_rfl,by kernel_rfl⟩,by kernel_rfl,by kernel_rfl,by kernel_rfl⟩,?_⟩
         conv=>whnf
         refine⟨(m4,mT l3 ⟨2,p.zone.apex,s.set.name⟩),⟨aj.keep trivial ⟨⟨rfl,rfl⟩,⟨rfl,rfl⟩,⟨rfl,rfl⟩,⟨rfl,rfl⟩,⟨rfl,rfl⟩,⟨rfl,rfl⟩,trivial⟩,DY (by kernel_rfl)⟩,hm4,oD hn3,λf=>?_⟩;dsimp only;rw[sU,hl3,hfold,hG,List.mem_singleton,or_assoc]
      . rintro j ⟨m3,l3⟩ hj ⟨hm3,hn3,hl3⟩;dsimp only at hm3 hn3 hl3;have hj:j=(eJ (eC p.zone) p.zone.sets).length:=hj;have hjl:(p.zone.sets.filter (eC p.zone)).take j=p.zone.sets.filter (eC p.zone):=by
         rw[hj];exact List.take_of_length_le (by unfold eJ;rw[ak];exact Nat.le_refl _)
        have hgl:p.zone.sets.filter (eC p.zone)=p.zone.sets.filter (gq p.zone):=List.filter_congr λs hs=>QW hvz hs
        rw[hjl,hgl]at hl3
        conv=>whnf
        refine⟨(L.eraseIdx i,some (cE (p.zone.apex,.agg (aT p.zone))),m3,l3),⟨λq hq=>K.sub q (List.mem_of_mem_eraseIdx hq),hm3,hn3,λf=>?_⟩,by(show(L.eraseIdx i).length<L.length;rw[List.length_eraseIdx,if_pos hpl];omega),aj.keep ⟨ab,ab,ab,trivial⟩ ⟨ab,ab,ab,ab,⟨?_,rfl⟩,trivial⟩⟩
        . dsimp only;rw[<- K.all f,hfl,hZ,hl3,hl2,hl1,List.mem_append,List.mem_append,or_assoc,or_assoc,or_assoc,or_assoc,or_assoc]
        . have e:((bU L).map cE).eraseIdx i=(bU (L.eraseIdx i)).map cE:=by
           unfold bU;rw[uU,uU]
          show some (Blk.iter (((bU L).map cE).eraseIdx i) _)=some (Blk.iter ((bU (L.eraseIdx i)).map cE) _)
          rw[e]
theorem wO(a b:List Datum)(ha:a.length<=200000):NQ.Fn cx 11 [.slice 3 (a.map bz),.slice 3 (b.map bz)] (.d (.bool (decide (a=b)))) []:=by
 refine aA aO mixed Tryz.func11 (by kernel_rfl) rfl (ag rfl) ?_;conv=>whnf
 (refine ae (λh=>?_) (λh=>?_) <;> (rw[h];conv=>whnf))
 . exact af rfl (vO λe=>by subst e;simp at h)
 have h4:=DX h;refine⟨Nat,λk=>⟨[(0,.d (.slice 3 (a.map bz))),(1,.d (.slice 3 (b.map bz))),(5,.d (.int .i64 k))],[]⟩,λk=>k<=a.length/\ ∀i,i<k->a[i]? =b[i]?, λk=>a.length-k,⟨0,⟨by omega,λi hi=>by omega⟩,aj.keep ⟨ab,ab,ab,trivial⟩ trivial⟩,λk ⟨hk,hall⟩=>?_⟩
 conv=>whnf
 refine ae (λh1=>?_) (λh1=>?_) <;> (rw[h1];conv=>whnf)
 . have hlt:k<a.length:=by simp at h1;omega
   obtain⟨x,hx⟩:∃s,a[k]? =some s:=⟨_,ah hlt⟩
   obtain⟨y,hy⟩:∃s,b[k]? =some s:=⟨_,ah (by omega)⟩
   (refine⟨(by kernel_rfl:bg _ _=true),?_⟩;conv=>whnf)
   refine⟨aw k,bz x,aG hx,?_⟩
   conv=>whnf
   refine⟨aw k,bz y,aG hy,?_⟩
   conv=>whnf
   (refine ae (λh=>?_) (λh=>?_) <;> (rw[h];conv=>whnf))
   . refine af rfl (vO λe=>?_);subst e;rw[hx]at hy;cases hy;simp at h
   . refine⟨k+1,⟨by omega,zW hall ?_⟩,by(show a.length-(k+1)<a.length-k;omega),aj.keep ⟨ab,ab,⟨an (by omega),rfl⟩,trivial⟩ trivial⟩;rw[hx,hy];simp at h;cases x;cases y;simp at h ⊢;exact⟨h.1,h.2.1,h.2.2⟩
 . obtain rfl:k=a.length:=by simp at h1;omega
   exact af rfl (Fl (xu h4 hall))
theorem zl(a b:List Fnd)(ha:a.length<=200000):NQ.Fn cx 16 [.slice 3 (a.map cr),.slice 3 (b.map cr)] (.d (.bool (decide (a=b)))) []:=by
 refine aA aO mixed Tryz.func16 (by kernel_rfl) rfl (ag rfl) ?_;conv=>whnf
 (refine ae (λh=>?_) (λh=>?_) <;> (rw[h];conv=>whnf))
 . exact af rfl (vO λe=>by subst e;simp at h)
 have h4:=DX h;refine⟨Nat,λk=>⟨[(0,.d (.slice 3 (a.map cr))),(1,.d (.slice 3 (b.map cr))),(5,.d (.int .i64 k))],[]⟩,λk=>k<=a.length/\ ∀i,i<k->a[i]? =b[i]?, λk=>a.length-k,⟨0,⟨by omega,λi hi=>by omega⟩,aj.keep ⟨ab,ab,ab,trivial⟩ trivial⟩,λk ⟨hk,hall⟩=>?_⟩
 conv=>whnf
 refine ae (λh1=>?_) (λh1=>?_) <;> (rw[h1];conv=>whnf)
 . have hlt:k<a.length:=by simp at h1;omega
   obtain⟨x,hx⟩:∃s,a[k]? =some s:=⟨_,ah hlt⟩
   obtain⟨y,hy⟩:∃s,b[k]? =some s:=⟨_,ah (by omega)⟩
   (refine⟨(by kernel_rfl:bg _ _=true),?_⟩;conv=>whnf)
   refine⟨aw k,cr x,aG hx,?_⟩
   conv=>whnf
   refine⟨aw k,cr y,aG hy,?_⟩
   conv=>whnf
   (refine ae (λh=>?_) (λh=>?_) <;> (rw[h];conv=>whnf))
   . refine af rfl (vO λe=>?_);subst e;rw[hx]at hy;cases hy;simp at h
   . refine⟨k+1,⟨by omega,zW hall ?_⟩,by(show a.length-(k+1)<a.length-k;omega),aj.keep ⟨ab,ab,⟨an (by omega),rfl⟩,trivial⟩ trivial⟩;rw[hx,hy];simp at h;cases x;cases y;simp at h ⊢;exact⟨h.1,h.2.1,h.2.2⟩
 . obtain rfl:k=a.length:=by simp at h1;omega
   exact af rfl (Fl (xu h4 hall))
theorem JN(a b:List Int)(ha:a.length<=200000):NQ.Fn cx 17 [.slice 1 (a.map ba),.slice 1 (b.map ba)] (.d (.bool (decide (a=b)))) []:=by
 refine aA aO mixed Tryz.func17 (by kernel_rfl) rfl (ag rfl) ?_;conv=>whnf
 (refine ae (λh=>?_) (λh=>?_) <;> (rw[h];conv=>whnf))
 . exact af rfl (vO λe=>by subst e;simp at h)
 have h4:=DX h;refine⟨Nat,λk=>⟨[(0,.d (.slice 1 (a.map ba))),(1,.d (.slice 1 (b.map ba))),(5,.d (.int .i64 k))],[]⟩,λk=>k<=a.length/\ ∀i,i<k->a[i]? =b[i]?, λk=>a.length-k,⟨0,⟨by omega,λi hi=>by omega⟩,aj.keep ⟨ab,ab,ab,trivial⟩ trivial⟩,λk ⟨hk,hall⟩=>?_⟩
 conv=>whnf
 refine ae (λh1=>?_) (λh1=>?_) <;> (rw[h1];conv=>whnf)
 . have hlt:k<a.length:=by simp at h1;omega
   obtain⟨x,hx⟩:∃s,a[k]? =some s:=⟨_,ah hlt⟩
   obtain⟨y,hy⟩:∃s,b[k]? =some s:=⟨_,ah (by omega)⟩
   (refine⟨(by kernel_rfl:bg _ _=true),?_⟩;conv=>whnf)
   refine⟨aw k,ba x,aG hx,?_⟩
   conv=>whnf
   refine⟨aw k,ba y,aG hy,?_⟩
   conv=>whnf
   (refine ae (λh=>?_) (λh=>?_) <;> (rw[h];conv=>whnf))
   . refine af rfl (vO λe=>?_);subst e;rw[hx]at hy;cases hy;simp at h
   . refine⟨k+1,⟨by omega,zW hall ?_⟩,by(show a.length-(k+1)<a.length-k;omega),aj.keep ⟨ab,ab,⟨an (by omega),rfl⟩,trivial⟩ trivial⟩;rw[hx,hy];simp at h;rw[h]
 . obtain rfl:k=a.length:=by simp at h1;omega
   exact af rfl (Fl (xu h4 hall))
end Go.Proofs.YtmaepddmaghpjaaGreatDoor
namespace NP
open NQ Go
def vD:Option (Nat×ai)->Bs
 |some x=>x.2.zone.apex
 |none=>[]
theorem AW{zs:List ai}(hz:∀p∈zs,aq p.zone.apex=true){b:Option (Nat×ai)}(h:iJ zs b):(vD b==[])=b.isNone:=by
 cases b with
 |none=>rfl
 |some x =>
  have:=yf (hz x.2 (ao (h x rfl)));show(x.2.zone.apex==[])=false
  rw[beq_eq_false_iff_ne];exact this
theorem Nk(a:Bs)(p:ai):gV (-1) a a p=((p.zone.apex != a)&&aD a p.zone.apex):=by
 unfold gV;rw[show(decide ((-1:Int)>=0))=false from rfl,iF,dF,Bool.not_or,oo];rfl
theorem QB{z:aF}(hv:aW z=true)(q:aR):match z.sets.find? (is q)with|some s=> ∃k:Nat,atI z.sets q=(k:Int)/\z.sets[k]? =some s/\s∈z.sets|none=>atI z.sets q<0:=by
 have hR:=Fb hv;cases hf:z.sets.find? (is q)with
 |none =>
  have h1:cJ z.sets q=false:=by rw[<- sF,hf];rfl
  have:=mY z.sets q;rw[h1]at this;exact of_decide_eq_true this
 |some s =>
  have h1:cJ z.sets q=true:=by rw[<- sF,hf];rfl
  obtain⟨k,s',hk,hs,hp⟩:=yq h1;have hm:=List.mem_of_find?_eq_some hf;have hp2:s.place=q.place:=(lu q s).1 (List.find?_some hf);have:s' =s:=RP.uniq hR (ao hs) hm (hp.trans hp2.symm);subst this;exact⟨k,hk,hs,hm⟩
def setOf(zs:List ai)(b:Bs)(q:aR):Option (List Datum):=match aY zs b with|none=>none|some x=>(x.2.zone.sets.find? (is q)).map λs=>s.set.data
theorem ra(zs:List ai)(a:Bs):dv zs a=match (if a=[46]then some a else di zs a)with|none=>none|some b=>setOf zs b ⟨a,2⟩:=rfl
end NP
namespace Go.Proofs.YtmaepddmaghpjaaGreatDoor
open NQ Go NP Go.RowKit
theorem HO(w:az)(a:Bs)(ha:aq a=true)(hz:∀p∈w.zones,aq p.zone.apex=true)(hl:w.zones.length<=100000) :
 NQ.Fn cx 45 [.agg (aZ w),.str a] (.tuple [.d (.str ((di w.zones a).getD [])),.d (.bool (di w.zones a).isSome)]) []:=by
 have hab:=HQ hz ha;have hn:=cU ha;have hres:(vD (fj w.zones (-1) a a),(vD (fj w.zones (-1) a a) != []))=((di w.zones a).getD [],(di w.zones a).isSome):=by
  rw[<- hab];have:=AW hz (Dp w.zones (-1) a a);unfold bne;rw[this];cases fj w.zones (-1) a a <;> rfl
 refine aA aO mixed Tryz.func45 (by kernel_rfl) rfl (ag rfl) ?_;conv=>whnf
 refine⟨Nat×Option (Nat×ai),λx=>⟨[(1,.d (.str a)),(2,.ptr 2 0),(6,.d (.str (vD x.2))),(7,.d (.int .i64 x.1))],[(2,.box ((aZ w).map .d))]⟩,
  λx=>x.1<=w.zones.length/\iJ w.zones x.2/\fq (gV (-1) a a) yG x.1 (w.zones.drop x.1) x.2=fj w.zones (-1) a a,λx=>w.zones.length-x.1,
  ⟨(0,none),⟨Nat.zero_le _,(λx hx=>by cases hx),rfl⟩,aj.keep ⟨ab,ab,ab,ab,trivial⟩ ⟨ab,trivial⟩⟩,λ⟨k,b⟩ ⟨hk,hb,hinv⟩=>?_⟩
 dsimp only at hk hb hinv ⊢
 conv=>whnf
 refine ae (λh1=>?_) (λh1=>?_) <;> (rw[h1];conv=>whnf)
 . have hlt:k<w.zones.length:=by simpa using h1
   obtain⟨p,hp⟩:∃p,w.zones[k]? =some p:=⟨_,ah hlt⟩
   have hpv:=hz p (ao hp);rw[AX hp]at hinv;have next:∀b',b' =bN (gV (-1) a a) yG k p b->(k+1<=w.zones.length/\iJ w.zones b' /\fq (gV (-1) a a) yG (k+1) (w.zones.drop (k+1)) b' =fj w.zones (-1) a a):=λb' e=>by
    rw[e];exact⟨hlt,hb.step hp,hinv⟩
   refine⟨aw k,aV p,aG hp,?_⟩
   conv=>whnf
   have hok:=Nk a p;unfold bne at hok;cases h2:(p.zone.apex==a)with
   |true =>
    rw[h2]at hok
    conv=>whnf
    exact⟨(k+1,b),next _ (by unfold bN;rw[if_neg (by rw[hok];simp)]),by(show w.zones.length-(k+1)<w.zones.length-k;omega),aj.keep ⟨ab,ab,ab,⟨an (by omega),rfl⟩,trivial⟩ ⟨ab,trivial⟩⟩
   |false =>
    rw[h2]at hok
    conv=>whnf
    (refine⟨_,_,tQ a p.zone.apex hn (cU hpv),?_⟩;conv=>whnf)
    cases h3:aD a p.zone.apex with
    |false =>
     conv=>whnf
     exact⟨(k+1,b),next _ (by unfold bN;rw[if_neg (by rw[hok,h3];simp)]),by(show w.zones.length-(k+1)<w.zones.length-k;omega),aj.keep ⟨ab,ab,ab,⟨an (by omega),rfl⟩,trivial⟩ ⟨ab,trivial⟩⟩
    |true =>
     have hokk:gV (-1) a a p=true:=by rw[hok,h3];rfl
     conv=>whnf
     cases b with
     |none =>
      conv=>whnf
      exact⟨(k+1,some (k,p)),next _ (by unfold bN;rw[if_pos hokk]),by(show w.zones.length-(k+1)<w.zones.length-k;omega),aj.keep ⟨ab,ab,ab,⟨an (by omega),rfl⟩,trivial⟩ ⟨ab,trivial⟩⟩
     |some x =>
      have hx:=hb x rfl;have hxv:=hz x.2 (ao hx);have hne:((vD (some x))==[])=false:=AW hz hb;rw[hne]
      conv=>whnf
      (refine⟨_,_,CJ p.zone.apex (by have:=cU hpv;omega),?_⟩;conv=>whnf)
      (refine⟨_,_,CJ (vD (some x)) (by have:=cU hxv;show x.2.zone.apex.length<=_;omega),?_⟩;conv=>whnf)
      refine ae (λg2=>?_) (λg2=>?_) <;> (rw[g2];conv=>whnf)
      . exact⟨(k+1,some (k,p)),next _ (by
         unfold bN;rw[if_pos hokk];dsimp only;rw[if_pos (by have:=of_decide_eq_true g2;rw[ak,ak]at this;exact decide_eq_true this)]),by(show w.zones.length-(k+1)<w.zones.length-k;omega),aj.keep ⟨ab,ab,ab,⟨an (by omega),rfl⟩,trivial⟩ ⟨ab,trivial⟩⟩
      . exact⟨(k+1,some x),next _ (by
         unfold bN;rw[if_pos hokk];dsimp only;rw[if_neg (by have:=of_decide_eq_false g2;rw[ak,ak]at this;intro h;exact this (of_decide_eq_true h))]),by(show w.zones.length-(k+1)<w.zones.length-k;omega),aj.keep ⟨ab,ab,ab,⟨an (by omega),rfl⟩,trivial⟩ ⟨ab,trivial⟩⟩
 . obtain rfl:k=w.zones.length:=by simp at h1;omega
   refine af rfl ?_;have hb' :b=fj w.zones (-1) a a:=by rw[<- hinv,List.drop_length];rfl
   rw[hb'];have e1:=congrArg Prod.fst hres;have e2:=congrArg Prod.snd hres;dsimp only at e1 e2;rw[<- e1, <- e2];rfl
def Tw:Nat->List Nat
 |7=>[55555,66666]
 |8=>[55555]
 |_=>[]
@[reducible] def Pu (w:az) (a b:Bs):St:=⟨[(1,.d (.str a)),(2,.ptr 2 0),(6,.d (.str b))],[(2,.box ((aZ w).map .d))]⟩
@[reducible] def SP (w:az) (a:Bs) (z:aF):St:=⟨[(1,.d (.str a)),(2,.ptr 2 0),(9,.ptr 9 0)],[(2,.box ((aZ w).map .d)),(9,.box ((aT z).map .d))]⟩
theorem ID(w:az)(a:Bs)(hF:cA w)(hv:aN w=true)(ha:aq a=true)(hc:(aY w.zones a).isSome=true) :
 NQ.Fn cx 12 [.agg (aZ w),.str a] (.tuple [.d (.slice 3 (((dv w.zones a).getD []).map bz)),.d (.bool (dv w.zones a).isSome)]) []:=by
 have hz:∀p∈w.zones,aW p.zone=true:=λp hp=>(bB hv p hp).1
 have hzn:∀p∈w.zones,aq p.zone.apex=true:=λp hp=>(dt.1 (hz p hp)).ord.apex
 have hzl:=hF.zones;have hab:=wb w.zones ha;refine cC Tw aO mixed Tryz.func12 (by kernel_rfl) rfl (ag rfl) ?_
 conv=>whnf
 apply um (α:=Bs) (P:=λb=>(aY w.zones b).isSome=true/\dv w.zones a=setOf w.zones b ⟨a,2⟩) (canon:=Pu w a)
 case h1 =>
  intro rest;cases h2:(a==[46])with
  |true =>
   have e:a=[46]:=by simpa using h2
   conv=>whnf
   exact iG (st1:=Pu w a a) (aj.keep ⟨ab,ab,ab,trivial⟩ ⟨ab,trivial⟩) (rest a ⟨hc,by rw[ra,if_pos e]⟩)
  |false =>
   have e:¬a=[46]:=by simpa using h2
   conv=>whnf
   (refine⟨_,_,HO w a ha hzn (by omega),?_⟩;conv=>whnf)
   cases hb:di w.zones a with
   |none =>
    have e2:dv w.zones a=none:=by rw[ra,if_neg e,hb]
    rw[e2]
    conv=>whnf
    exact af rfl rfl
   |some b =>
    rw[hb]at hab
    conv=>whnf
    exact iG (st1:=Pu w a b) (aj.keep ⟨ab,ab,ab,trivial⟩ ⟨ab,trivial⟩) (rest b ⟨hab.1,by rw[ra,if_neg e,hb]⟩)
 case h2 =>
  rintro b ⟨hbc,hdel⟩;rw[hdel];cases hx:aY w.zones b with
  |none=>rw[hx]at hbc;cases hbc
  |some x =>
   have hxz:=xn w.zones b x hx;have hxm:=ao hxz;have hxv:=hz x.2 hxm;have hset:setOf w.zones b ⟨a,2⟩=(x.2.zone.sets.find? (is ⟨a,2⟩)).map λs=>s.set.data:=by unfold setOf;rw[hx]
   rw[hset];have hat:=QB hxv ⟨a,2⟩;have fC:=Dh w.zones b hz (by omega);rw[hx]at fC;have fA:=Ct x.2.zone ⟨a,2⟩ (by have:=(cS (hF.few x.2 hxm)).1;omega);show lh _ _ _ _ _ _ _
   conv=>whnf
   (refine⟨(by kernel_rfl:kL _=true),?_⟩;conv=>whnf)
   apply um (α:=Unit) (P:=λ_=>True) (canon:=λ_=>SP w a x.2.zone)
   case h1 =>
    intro rest2
    repeat' (first
     |(exact iG (st1:=SP w a x.2.zone) (aj.keep ⟨ab,ab,ab,trivial⟩ ⟨ab,ab,trivial⟩) (rest2 () trivial))
     |(refine⟨_,_,fC,?_⟩;conv=>whnf)
     |(refine⟨aw x.1,aV x.2,aG hxz,?_⟩;conv=>whnf)
     |(refine⟨by kernel_rfl,?_⟩;conv=>whnf)
     |(refine⟨?_,?_⟩ <;> (conv=>whnf))
     |fail)
   case h2 =>
    rintro _ _;show lh _ _ _ _ _ _ _
    conv=>whnf
    (refine⟨_,_,fA,?_⟩;conv=>whnf)
    cases hf:x.2.zone.sets.find? (is ⟨a,2⟩)with
    |none =>
     rw[hf]at hat;refine ae (λh3=>?_) (λh3=>?_) <;> (rw[h3];conv=>whnf)
     . exact af rfl rfl
     . exact absurd hat (of_decide_eq_false h3)
    |some s =>
     rw[hf]at hat;obtain⟨k,hk,hs,_⟩:=hat;refine ae (λh3=>?_) (λh3=>?_) <;> (rw[h3];conv=>whnf)
     . have:=of_decide_eq_true h3;omega
     . refine⟨by omega,ax s,by rw[hk,Int.toNat_natCast];exact aG hs,?_⟩
       conv=>whnf
       exact af rfl rfl
end Go.Proofs.YtmaepddmaghpjaaGreatDoor
namespace NP
open NQ Go
end NP
namespace Go.Proofs.YtmaepddmaghpjaaGreatDoor
open NQ Go NP Go.RowKit
def hK(l:List Fnd)(fl:Bool):List (Nat×Blk):=[(300,.row 37 3 (l.map cr) fl)]
end Go.Proofs.YtmaepddmaghpjaaGreatDoor
namespace NP
open NQ Go
def nc(w:az):List Fnd×Int:=if aN w=true then(rh w,0)else([],1)
end NP
namespace Go.Proofs.YtmaepddmaghpjaaGreatDoor
open NQ Go NP Go.RowKit
theorem lr(w:az)(hF:cA w)(hz:w.zones.length<=100):NQ.Fn cx 6 [.agg (aZ w)] (.tuple [.d (.slice 3 ((nc w).1.map cr)),.d (.int .i64 (nc w).2)]) []:=by
 unfold nc;cases hv:aN w with
 |true=>rw[if_pos rfl];exact Dy w hF hv hz
 |false =>
  have fV:=qJ w hF;rw[hv]at fV;rw[if_neg (by simp)];refine aA aO mixed Tryz.func6 (by kernel_rfl) rfl (ag rfl) ?_;conv=>whnf
  (refine⟨_,_,fV,?_⟩;conv=>whnf)
  exact af rfl rfl
end Go.Proofs.YtmaepddmaghpjaaGreatDoor
namespace NP
open NQ Go
def uz(n:Bs)(t:Int)(d:Datum):Signed:=⟨⟨n,t,60,[d]⟩,[]⟩
def aNs:Bs:=[97,46,110,115]
def Tp:aF:=⟨[46],[uz [46] 2 ⟨aNs,0,0⟩,uz [46] 4 ⟨[],1,60⟩,uz [110,115] 2 ⟨aNs,0,0⟩,uz aNs 1 ⟨[],1,0⟩]⟩
def nsL(a:Int):aF:=⟨[110,115],[uz [110,115] 2 ⟨aNs,0,0⟩,uz [110,115] 4 ⟨[],1,60⟩,uz aNs 1 ⟨[],a,0⟩]⟩
def exL(a h:Int):az:=⟨[⟨aNs,1,0⟩,⟨[98,46,110,115],5,0⟩],[⟨0,Tp⟩,⟨h,nsL a⟩],⟨[46],6,60,[⟨[],1,1⟩]⟩,[1]⟩
def exN:az:=⟨[],[],⟨[],0,0,[]⟩,[]⟩
theorem pb(a h:Int):cA (exL a h):=⟨(by show 2<=1000;omega),(by show 2<=1000;omega),(by show 1<=1000;omega),λp hp=>by
 rcases List.mem_cons.1 hp with rfl|hp
 . kernel_rfl
 . rcases List.mem_cons.1 hp with rfl|hp
   . kernel_rfl
   . cases hp⟩
theorem QK:cA exN:=⟨by decide,by decide,by decide,λp hp=>by cases hp⟩
theorem xy{w:az}(hF:cA w)(hv:aN w=true){l:List Fnd}(h:mK (zi w)=l):nc w=(l,0):=by
 unfold nc;rw[if_pos hv, <- Pf hF hv,h]
theorem Sm:aN (exL 1 0)=true:=by kernel_rfl
theorem Sn:aN (exL 1 1)=true:=by kernel_rfl
theorem Sp:aN (exL 2 0)=true:=by kernel_rfl
theorem Sg:nc (exL 1 0)=([],0):=xy (pb 1 0) Sm (by kernel_rfl)
theorem Sh:nc (exL 1 1)=([⟨1,[110,115],aNs⟩],0):=xy (pb 1 1) Sn (by kernel_rfl)
theorem Si:nc (exL 2 0)=([⟨1,[46],aNs⟩,⟨1,[110,115],aNs⟩,⟨2,[46],aNs⟩],0):=xy (pb 2 0) Sp (by kernel_rfl)
theorem Sj:iT (exL 1 0) [110,115]=([0],0):=by kernel_rfl
theorem Sk:iT (exL 1 1) [110,115]=([],0):=by kernel_rfl
theorem Sl:iT (exL 1 0) [120]=([],4):=by kernel_rfl
theorem Te:nc exN=([],1):=by kernel_rfl
end NP
namespace Go.Proofs.YtmaepddmaghpjaaGreatDoor
open NQ Go NP Go.RowKit
noncomputable def NU:Cx:={cx with bld:=[17]}
theorem TE:bl NU:=aO
theorem Ro:NU.P.follows .mixedOrders=true:=mixed
noncomputable def NV:Cx:={cx with bld:=[12,18,22,30]}
theorem TF:bl NV:=aO
theorem Rp:NV.P.follows .mixedOrders=true:=mixed
noncomputable def NW:Cx:={cx with bld:=[54,58,103]}
theorem TG:bl NW:=aO
theorem Rq:NW.P.follows .mixedOrders=true:=mixed
theorem kB(n:Bs)(t:Int)(s:Bs)(x y:Int):NQ.Fn cx 48 [.str n,.int .i64 t,.str s,.int .i64 x,.int .i64 y] (.agg ((ax (uz n t ⟨s,x,y⟩)).map .d)) []:=by
 show NQ.Fn NU _ _ _ _
 refine cC (λ_=>[]) TE Ro Tryz.func48 (by kernel_rfl) rfl (ag rfl) ?_
 conv=>whnf
 exact af rfl rfl
set_option maxHeartbeats 4000000 in
theorem Ds(a:Int)(b:Bool):NQ.Fn cx 14 [.int .i64 a,.bool b] (.agg ((aZ (exL a (if b=true then 0 else 1))).map .d)) []:=by
 show NQ.Fn NV _ _ _ _
 refine cC (fun|6=>[22,27,30]|_=>[]) TF Rp Tryz.func14 (by kernel_rfl) rfl (ag rfl) ?_
 conv=>whnf
 (refine⟨_,_,kB [46] 2 aNs 0 0,?_⟩;conv=>whnf)
 (refine⟨_,_,kB [46] 4 [] 1 60,?_⟩;conv=>whnf)
 (refine⟨_,_,kB [110,115] 2 aNs 0 0,?_⟩;conv=>whnf)
 (refine⟨_,_,kB aNs 1 [] 1 0,?_⟩;conv=>whnf)
 (refine⟨_,_,kB [110,115] 2 aNs 0 0,?_⟩;conv=>whnf)
 (refine⟨_,_,kB [110,115] 4 [] 1 60,?_⟩;conv=>whnf)
 (refine⟨_,_,kB aNs 1 [] a 0,?_⟩;conv=>whnf)
 (refine⟨(by kernel_rfl:bg _ _=true),?_⟩;conv=>whnf)
 (refine⟨_,_,kB [46] 6 [] 1 1,?_⟩;conv=>whnf)
 cases b
 . conv=>whnf
   exact af (by rfl) (by rfl)
 . conv=>whnf
   refine⟨by omega,(by show 1<2;omega),?_⟩
   conv=>whnf
   refine⟨_,rfl,?_⟩
   conv=>whnf
   exact af (by rfl) (by rfl)
theorem Ai(a h:Int)(b:Bool)(e:h=(if b=true then 0 else 1)):NQ.Fn cx 14 [.int .i64 a,.bool b] (.agg ((aZ (exL a h)).map .d)) []:=by
 subst e;exact Ds a b
set_option maxHeartbeats 4000000 in
theorem Ly:NQ.Fn cx 4 [] (.d (.bool true)) []:=by
 have hF1:=pb 1 0;have hF2:=pb 1 1;have hF3:=pb 2 0;have e1:=Ai 1 0 true rfl;have e2:=Ai 1 1 false rfl;have e3:=Ai 2 0 true rfl;have f1:=lr (exL 1 0) hF1 (by show 2<=100;omega);have f2:=lr (exL 1 1) hF2 (by show 2<=100;omega);have f3:=lr (exL 2 0) hF3 (by show 2<=100;omega);have f4:=tq (exL 1 0) [110,115] hF1;have f5:=tq (exL 1 1) [110,115] hF2;have f6:=tq (exL 1 0) [120] hF1;have f7:=lr exN QK (by show 0<=100;omega);rw[Sg]at f1;rw[Sh]at f2;rw[Si]at f3;rw[Sj]at f4;rw[Sk]at f5;rw[Sl]at f6;rw[Te]at f7;have f8:=zl [⟨1,[110,115],aNs⟩] [⟨1,[110,115],aNs⟩] (by show 1<=200000;omega)
 have f9:=zl [⟨1,[46],aNs⟩,⟨1,[110,115],aNs⟩,⟨2,[46],aNs⟩] [⟨1,[46],aNs⟩,⟨1,[110,115],aNs⟩,⟨2,[46],aNs⟩] (by show 3<=200000;omega);have f10:=JN [0] [0] (by show 1<=200000;omega);rw[decide_eq_true rfl]at f8 f9 f10;show NQ.Fn NW _ _ _ _
 refine cC (λ_=>[]) TG Rq Tryz.func4 (by kernel_rfl) rfl (ag rfl) ?_
 conv=>whnf
 (refine⟨_,_,e1,?_⟩;conv=>whnf)
 (refine⟨_,_,f1,?_⟩;conv=>whnf)
 (refine⟨_,_,e2,?_⟩;conv=>whnf)
 (refine⟨_,_,f2,?_⟩;conv=>whnf)
 (refine⟨_,_,e3,?_⟩;conv=>whnf)
 (refine⟨_,_,f3,?_⟩;conv=>whnf)
 (refine⟨_,_,e1,?_⟩;conv=>whnf)
 (refine⟨_,_,f4,?_⟩;conv=>whnf)
 (refine⟨_,_,e2,?_⟩;conv=>whnf)
 (refine⟨_,_,f5,?_⟩;conv=>whnf)
 (refine⟨_,_,e1,?_⟩;conv=>whnf)
 (refine⟨_,_,f6,?_⟩;conv=>whnf)
 (refine⟨_,_,f7,?_⟩;conv=>whnf)
 (refine⟨_,_,f8,?_⟩;conv=>whnf)
 (refine⟨_,_,f9,?_⟩;conv=>whnf)
 (refine⟨_,_,f10,?_⟩;conv=>whnf)
 exact af rfl rfl
end Go.Proofs.YtmaepddmaghpjaaGreatDoor
namespace NP
open NQ Go
def AG(w:az)(n:Int)(a:Bs):Bool:=((ml w n ⟨a,4⟩).2==0)&&((ml w n ⟨a,4⟩).1.kind==1)
theorem JS{w:az}(hF:cA w)(hv:aN w=true){a:Bs}(ha:aq a=true)(n:Int):AG w n a=bM w a n:=by
 unfold AG;rw[RW hv (wT ha) hF];by_cases hk:hX w.hosts n<0
 . rw[if_pos hk];have:bM w a n=false:=by
    unfold bM;rw[List.any_eq_false];intro p hp;rw[<- Bk hv hp];obtain⟨_,h0,_⟩:=bB hv p hp;simp only[ay,beq_iff_eq];rintro⟨_,e⟩;omega
   rw[this];rfl
 . rw[if_neg hk];have h0:0<=hX w.hosts n:=by omega
   have:=IB hF hv ha h0;dsimp only;rw[this];show(true&&_)=_
   rw[du];unfold bM;rw[Bool.eq_iff_iff,List.any_eq_true,List.any_eq_true];exact exists_congr λp=>and_congr_right λhp=>by rw[Bk hv hp]
theorem Of{w:az}(h:lg w=true):cA w/\w.zones.length<=20:=⟨(xw h).1,(xw h).2.2.1⟩
end NP
namespace Go.Proofs.YtmaepddmaghpjaaGreatDoor
open NQ Go NP Go.RowKit
abbrev tN:Prop:=NQ.Fn cx 4 [] (.d (.bool true)) []
theorem Gx(w:az):NQ.Fn cx 5 [.agg (aZ w)] (.d (.bool (lg w&&aN w))) []:=by
 refine aA aO mixed Tryz.func5 (by kernel_rfl) rfl (ag rfl) ?_;conv=>whnf
 (refine⟨_,_,QM w,?_⟩;conv=>whnf)
 cases hf:lg w with
 |false =>
  conv=>whnf
  exact af rfl rfl
 |true =>
  have hF:=(xw hf).1
  conv=>whnf
  (refine⟨_,_,Km w hF,?_⟩;conv=>whnf)
  exact af rfl rfl
theorem EN(w:az)(n:Int)(a:Bs)(hF:cA w)(hv:aN w=true)(ha:aq a=true):NQ.Fn cx 8 [.agg (aZ w),.int .i64 n,.str a] (.d (.bool (bM w a n))) []:=by
 rw[<- JS hF hv ha];have fA:=RX w n ⟨a,4⟩ hF;unfold AG;refine aA aO mixed Tryz.func8 (by kernel_rfl) rfl (ag rfl) ?_;conv=>whnf
 (refine⟨_,_,fA,?_⟩;conv=>whnf)
 cases h1:((ml w n ⟨a,4⟩).2==0)with
 |false =>
  conv=>whnf
  exact af rfl rfl
 |true =>
  conv=>whnf
  exact af rfl rfl
set_option maxHeartbeats 1000000 in
theorem nv(w:az)(n:Bs)(hF:cA w):NQ.Fn cx 7 [.agg (aZ w),.str n] (.tuple [.d (.slice 3 ((bJ w n).map bz)),.d (.bool (!(bJ w n==[])))]) []:=by
 have hsm:=nH hF ⟨n,1⟩;have hW:bJ w n=iq (dA w ⟨n,1⟩):=rfl;have fT:=ye w ⟨n,1⟩ hF;rw[hW];generalize dA w ⟨n,1⟩=T at *
 obtain⟨A,e⟩:=T;obtain⟨kd,sets,ct⟩:=A;dsimp only at fT hsm;have hlen:sets.length<=100000:=hsm.len;have go:e=0->(kd=1\/kd=2)->iq (⟨kd,sets,ct⟩,e)=ia sets:=λh1 h2=>ll ⟨h1,h2⟩
 have no:¬(e=0/\(kd=1\/kd=2))->iq (⟨kd,sets,ct⟩,e)=[]:=λh=>qP h
 refine cC (fun|4=>[55555]|_=>[]) aO mixed Tryz.func7 (by kernel_rfl) rfl (ag rfl) ?_
 conv=>whnf
 (refine⟨_,_,fT,?_⟩;conv=>whnf)
 apply um (α:=Unit) (P:=λ_=>iq (⟨kd,sets,ct⟩,e)=ia sets) (canon:=λ_=>⟨[(6,.ptr 6 0)],[(6,.box ((gR ⟨kd,sets,ct⟩).map .d))]⟩)
 case h1 =>
  intro rest;refine ae (λh1=>?_) (λh1=>?_) <;> (rw[h1];conv=>whnf)
  . have e0:e≠0:=by simpa using h1
    rw[no λh=>e0 h.1];exact af rfl rfl
  . have e0:e=0:=by simpa using h1
    refine ae (λh2=>?_) (λh2=>?_) <;> (rw[h2];conv=>whnf)
    . have k1:kd≠1:=by simpa using h2
      refine ae (λh3=>?_) (λh3=>?_) <;> (rw[h3];conv=>whnf)
      . have k2:kd≠2:=by simpa using h3
        rw[no λh=>h.2.elim k1 k2];exact af rfl rfl
      . have k2:kd=2:=by simpa using h3
        exact iG (st1:=⟨[(6,.ptr 6 0)],[(6,.box ((gR ⟨kd,sets,ct⟩).map .d))]⟩) (aj.keep ⟨ab,trivial⟩ ⟨ab,trivial⟩) (rest () (go e0 (.inr k2)))
    . have k1:kd=1:=by simpa using h2
      exact iG (st1:=⟨[(6,.ptr 6 0)],[(6,.box ((gR ⟨kd,sets,ct⟩).map .d))]⟩) (aj.keep ⟨ab,trivial⟩ ⟨ab,trivial⟩) (rest () (go e0 (.inl k1)))
 case h2 =>
  rintro _ hA;rw[hA];show lh _ _ _ _ _ _ _
  conv=>whnf
  refine⟨Nat,λk=>⟨[(6,.ptr 6 0),(8,.d (.slice 3 ((ia (sets.take k)).map bz))),(31,.d (.slice 5 (sets.map ax))),(32,.d (.int .i64 ((sets.map ax).length:Int))),(33,.d (.int .i64 k))],[(6,.box ((gR ⟨kd,sets,ct⟩).map .d))]⟩,λk=>k<=sets.length,λk=>sets.length-k,
   ⟨0,Nat.zero_le _,(aj.pM 8 3 rfl).trans (aj.keep ⟨ab,ab,ab,ab,ab,trivial⟩ ⟨ab,trivial⟩)⟩,λk hk=>?_⟩
  dsimp only at hk ⊢
  conv=>whnf
  refine ae (λh1=>?_) (λh1=>?_) <;> (rw[h1];conv=>whnf)
  . have hlt:k<sets.length:=by simpa using h1
    obtain⟨s,hs⟩:∃s,sets[k]? =some s:=⟨_,ah hlt⟩
    have hl:=gF hs;refine⟨aw k,ax s,aG hs,?_⟩
    conv=>whnf
    refine ae (λh2=>?_) (λh2=>?_) <;> (rw[h2];conv=>whnf)
    . have h2' :(s.set.type==1)=true:=h2;rw[h2',if_pos rfl]at hl;exact⟨k+1,hlt,by(show sets.length-(k+1)<sets.length-k;omega),aj.keep ⟨ab,⟨by rw[hl];rfl,rfl⟩,ab,ab,⟨an (by omega),rfl⟩,trivial⟩ ⟨ab,trivial⟩⟩
    . have h2' :(s.set.type==1)=false:=h2;rw[h2',if_neg (by simp)]at hl;exact⟨k+1,hlt,by(show sets.length-(k+1)<sets.length-k;omega),aj.keep ⟨ab,⟨by rw[hl];rfl,rfl⟩,ab,ab,⟨an (by omega),rfl⟩,trivial⟩ ⟨ab,trivial⟩⟩
  . obtain rfl:k=sets.length:=by simp at h1;omega
    rw[List.take_length];refine af rfl ?_;have:(!(ia sets==[]))=decide ((((ia sets).map bz).length:Int)>0):=by
     rw[ak];cases ia sets with
     |nil=>rfl
     |cons x t=>symm;show decide ((((x::t:List Datum).length:Nat):Int)>0)=true;rw[decide_eq_true_iff,List.length_cons];omega
    rw[this];rfl
theorem QS{w:az}(hF:cA w)(hz:w.zones.length<=100):(nc w).1.length<=20000:=by
 unfold nc;cases hv:aN w with
 |false=>rw[if_neg (by simp)];exact Nat.zero_le _
 |true =>
  rw[if_pos rfl];have h1:=qs (oV (findAll w)).nodup λf hf=>lU.1 hf
  have h2:=wx hF hv hz;show(mK (findAll w)).length<=_
  omega
end Go.Proofs.YtmaepddmaghpjaaGreatDoor
namespace NP
open NQ Go
theorem oE{w:az}(hF:cA w)(hv:aN w=true)(n:Bs):(bJ w n).length<=20:=by
 by_cases h:bJ w n=[]
 . rw[h];exact Nat.zero_le _
 . obtain⟨p,hp,s,hs,_,e⟩:=yl hF hv h;rw[e];exact((cS (hF.few p hp)).2 s hs).1
theorem Qp{n:Int}(h:(Lit.int .u8 n).wf=true):0<=n/\n<=255:=by
 simp[Lit.wf,IntKind.min,IntKind.max,IntKind.signed,IntKind.bits]at h;omega
end NP
namespace Go.Proofs.YtmaepddmaghpjaaGreatDoor
open NQ Go NP Go.RowKit
theorem qz{t:TypeId}(a b:Int)(hb:b≠0):Il cx .rem t (.d (.int .i64 a)) (.d (.int .i64 b))=some (.d (.int .i64 (a.tmod b))):=by
 show(match ln .rem .i64 a b with|some r=>some (AV.d r)|none=>none)=_
 unfold ln;rw[decide_eq_false hb]
end Go.Proofs.YtmaepddmaghpjaaGreatDoor
namespace NP
open NQ Go
theorem KG{z:aF}(hv:aW z=true):∃s∈z.sets,s.set.name=z.apex/\s.set.type=2/\mD z=s.set.data:=by
 have hs:=(dt.1 hv).serv;rw[<- sF]at hs;unfold mD;cases hf:z.sets.find? (is ⟨z.apex,2⟩)with
 |none=>rw[hf]at hs;cases hs
 |some s =>
  have h2:=List.find?_some hf;simp only[is,ay,beq_iff_eq]at h2;exact⟨s,List.mem_of_find?_eq_some hf,h2.1,h2.2,rfl⟩
end NP
namespace Go.Proofs.YtmaepddmaghpjaaGreatDoor
open NQ Go NP Go.RowKit
theorem FH{z:aF}(hv:aW z=true):∃s∈z.sets,mD z=s.set.data/\NQ.Fn cx 9 [.agg (aT z),.agg [.str z.apex,.int .i64 2]] (.tuple [.agg ((ax s).map .d),.d (.bool true),.d (.int .i64 0)]) []:=by
 obtain⟨s,hs,h1,h2,h3⟩:=KG hv;refine⟨s,hs,h3,?_⟩;have:=Fm z (qOf s);rw[jk hv hs]at this;rw[<- h1, <- h2];exact this
end Go.Proofs.YtmaepddmaghpjaaGreatDoor
namespace NP
open NQ Go
theorem Og(z:aF)(q:aR)(hf:ib z=true):(iw z q).1.set.data.length<=20:=by
 have zero:oq.set.data.length<=20:=by simp[oq]
 unfold iw;split
 . exact zero
 . split
   . exact zero
   . show((z.sets[posOf z.sets q]?).getD oq).set.data.length<=20
     cases h:z.sets[posOf z.sets q]? with
     |none=>exact zero
     |some s=>exact((cS hf).2 s (ao h)).1
theorem KX{z:aF}(hv:aW z=true){s:Signed}(hs:s∈z.sets)(hg:gq z s=true):s.set.type=1/\ ∃c,eP z s.set.name=(c,true,0):=by
 have V:=dt.1 hv;have hn:=V.ord.name s hs;have hu:=V.ord.under s hs;unfold bq at hu;rw[if_pos ⟨hn,V.ord.apex⟩]at hu;unfold gq at hg;simp only[ay,beq_iff_eq]at hg;exact⟨hg.1,_,by rw[Ae hv hn hu,hg.2]⟩
end NP
namespace Go.Proofs.YtmaepddmaghpjaaGreatDoor
open NQ Go NP Go.RowKit
@[reducible] def JZ (w:az) (fk:Int) (fz fs:Bs) (A:List Datum):St :=
 ⟨[(2,.ptr 2 0),(5,.d (.bool true)),(8,.ptr 8 0),(9,.d (.slice 3 (A.map bz))),(10,.d (.bool (!(A==[]))))],[(2,.box ((aZ w).map .d)),(8,.box ((cr ⟨fk,fz,fs⟩).map .d))]⟩
@[reducible] def TC (w:az) (fz fs:Bs) (A:List Datum) (k:Nat) (p:ai) (s' :Signed) (has' is' :Bool) (e2 e' :Int):St :=
 ⟨[(2,.ptr 2 0),(5,.d (.bool true)),(8,.ptr 8 0),(9,.d (.slice 3 (A.map bz))),(93,.d (.slice 3 (w.zones.map aV))),(94,.d (.int .i64 ((w.zones.map aV).length:Int))),(95,.d (.int .i64 k)),(14,.ptr 14 0),(15,.ptr 15 0),(16,.d (.bool has')),(17,.d (.int .i64 e2)),(19,.d (.bool is')),(20,.d (.int .i64 e'))],
  [(2,.box ((aZ w).map .d)),(8,.box ((cr ⟨2,fz,fs⟩).map .d)),(14,.box ((aV p).map .d)),(15,.box ((ax s').map .d))]⟩
@[reducible] def Pv (w:az) (fz fs:Bs) (A:List Datum) (k:Nat):St:=⟨[(2,.ptr 2 0),(5,.d (.bool true)),(8,.ptr 8 0),(68,.d (.slice 3 (A.map bz))),(69,.d (.int .i64 ((A.map bz).length:Int))),(70,.d (.int .i64 k))],[(2,.box ((aZ w).map .d)),(8,.box ((cr ⟨1,fz,fs⟩).map .d))]⟩
@[reducible] def Pw (w:az) (fz fs:Bs) (A:List Datum) (k:Nat):St:=⟨[(2,.ptr 2 0),(5,.d (.bool true)),(8,.ptr 8 0),(9,.d (.slice 3 (A.map bz))),(93,.d (.slice 3 (w.zones.map aV))),(94,.d (.int .i64 ((w.zones.map aV).length:Int))),(95,.d (.int .i64 k))],[(2,.box ((aZ w).map .d)),(8,.box ((cr ⟨2,fz,fs⟩).map .d))]⟩
def GU:Code->Nat
 | .region id _ _=>id
 | .seq a _=>GU a
 |_=>0
def nO(n:Nat):Code->Option Code
 | .loop b=>(match Nat.beq (GU b) n with|true=>some b|false=>nO n b)
 | .seq a b=>(match nO n a with|some c=>some c|none=>nO n b)
 | .cond _ a b=>(match nO n a with|some c=>some c|none=>nO n b)
 | .block _ a=>nO n a
 |_=>none
def Am:Nat->List Nat
 |9=>[55555]
 |26=>[55555]
 |_=>[]
set_option maxHeartbeats 4000000 in
theorem RE(w:az)(hv:aN w=true)(hF:cA w)(fz fs:Bs)(va:aq fz=true)(A:List Datum)(hAl:A.length<=20)(k:Nat)(hk:k<=A.length)(Q:Ex->St->Prop)
 (hn:∀s d,A[k]? =some d->bM w fz d.n=true->aj cx s (Pv w fz fs A (k+1))->Q .normal s)
 (hr:∀s,rC cx Tryz.f3.results.toList (.d (.bool true)) [] s->Q .ret s) (hx:∀s,k=A.length->Q (.exit 1) s) :
 vc cx Tryz.f3.ntmps Am ((nO 12 ((Tryz.f3.body).getD .skip)).getD .skip) Q (Pv w fz fs A k):=by
 conv=>whnf
 refine ae (λg2=>?_) (λg2=>?_) <;> (rw[g2];conv=>whnf)
 . have hlt:k<A.length:=by simpa using g2
   obtain⟨d,hd⟩:∃d,A[k]? =some d:=⟨_,ah hlt⟩
   refine⟨aw k,bz d,aG hd,?_⟩
   conv=>whnf
   (refine⟨_,_,EN w d.n fz hF hv va,?_⟩;conv=>whnf)
   cases h6:bM w fz d.n with
   |false =>
    conv=>whnf
    exact hr _ (af rfl rfl)
   |true =>
    conv=>whnf
    exact hn _ d hd h6 (aj.keep ⟨ab,ab,ab,ab,ab,⟨an (by omega),rfl⟩,trivial⟩ ⟨ab,ab,trivial⟩)
 . exact hx _ (by simp at g2;omega)
set_option maxHeartbeats 4000000 in
theorem RF(w:az)(hv:aN w=true)(hF:cA w)(hzl:w.zones.length<=20)(fz fs:Bs)(A:List Datum)(k:Nat)(p:ai)(hp:w.zones[k]? =some p)(Q:Ex->St->Prop)
 (hn:∀s,¬(p.zone.apex=fz/\(iw p.zone ⟨fs,1⟩).2.2=0/\(eP p.zone fs).2.2=0/\(iw p.zone ⟨fs,1⟩).2.1=true/\(eP p.zone fs).2.1=true/\(iw p.zone ⟨fs,1⟩).1.set.data≠A)->aj cx s (Pw w fz fs A (k+1))->Q .normal s)
 (hr:∀s,rC cx Tryz.f3.results.toList (.d (.bool true)) [] s->Q .ret s) :
 vc cx Tryz.f3.ntmps Am ((nO 22 ((Tryz.f3.body).getD .skip)).getD .skip) Q (Pw w fz fs A k):=by
 have hlt:=(ar.1 hp).1;have hpm:=ao hp;have f2:=Fm p.zone ⟨fs,1⟩;have f3:=La p.zone fs;have f4:=wO (iw p.zone ⟨fs,1⟩).1.set.data A (by have:=Og p.zone ⟨fs,1⟩ (hF.few p hpm);omega)
 conv=>whnf
 rw[show decide ((k:Int)<((w.zones.map aV).length:Int))=true from decide_eq_true (by rw[ak];omega)]
 conv=>whnf
 refine⟨aw k,aV p,aG hp,?_⟩
 conv=>whnf
 generalize eP p.zone fs=C at f3 hn
 generalize iw p.zone ⟨fs,1⟩=R at f2 f4 hn
 obtain⟨c',is',e'⟩:=C;obtain⟨s',has',e2⟩:=R;dsimp only at f2 f3 f4 hn
 (refine⟨_,_,f2,?_⟩;conv=>whnf)
 (refine⟨_,_,f3,?_⟩;conv=>whnf)
 refine⟨TC w fz fs A k p s' has' is' e2 e',aj.keep ⟨ab,ab,ab,ab,ab,ab,ab,ab,ab,ab,ab,ab,ab,trivial⟩ ⟨ab,ab,ab,ab,trivial⟩,?_⟩
 conv=>whnf
 cases h1:(p.zone.apex==fz)with
 |false =>
  conv=>whnf
  exact hn _ (λh=>by rw[h.1]at h1;simp at h1) (aj.keep ⟨ab,ab,ab,ab,ab,ab,⟨an (by omega),rfl⟩,trivial⟩ ⟨ab,ab,trivial⟩)
 |true =>
 conv=>whnf
 refine ae (λg3=>?_) (λg3=>?_) <;> (rw[g3];conv=>whnf)
 case refine_2=>exact hn _ (λh=>by rw[h.2.1]at g3;simp at g3) (aj.keep ⟨ab,ab,ab,ab,ab,ab,⟨an (by omega),rfl⟩,trivial⟩ ⟨ab,ab,trivial⟩)
 refine ae (λg4=>?_) (λg4=>?_) <;> (rw[g4];conv=>whnf)
 case refine_2=>exact hn _ (λh=>by rw[h.2.2.1]at g4;simp at g4) (aj.keep ⟨ab,ab,ab,ab,ab,ab,⟨an (by omega),rfl⟩,trivial⟩ ⟨ab,ab,trivial⟩)
 cases has' with
 |false =>
  conv=>whnf
  exact hn _ (λh=>by have:=h.2.2.2.1;cases this) (aj.keep ⟨ab,ab,ab,ab,ab,ab,⟨an (by omega),rfl⟩,trivial⟩ ⟨ab,ab,trivial⟩)
 |true =>
 conv=>whnf
 cases is' with
 |false =>
  conv=>whnf
  exact hn _ (λh=>by have:=h.2.2.2.2.1;cases this) (aj.keep ⟨ab,ab,ab,ab,ab,ab,⟨an (by omega),rfl⟩,trivial⟩ ⟨ab,ab,trivial⟩)
 |true =>
 conv=>whnf
 (refine⟨_,_,f4,?_⟩;conv=>whnf)
 cases h5:decide (s'.set.data=A)with
 |true =>
  conv=>whnf
  exact hn _ (λh=>h.2.2.2.2.2 (of_decide_eq_true h5)) (aj.keep ⟨ab,ab,ab,ab,ab,ab,⟨an (by omega),rfl⟩,trivial⟩ ⟨ab,ab,trivial⟩)
 |false =>
  conv=>whnf
  exact hr _ (af rfl rfl)
set_option maxHeartbeats 4000000 in
theorem Mw(hH:tN)(w:az)(p0:Nat)(hp2:p0<=255)(fU:NQ.Fn cx 5 [.agg (aZ w)] (.d (.bool true)) [])(hv:aN w=true)(hF:cA w)(hzl:w.zones.length<=20)
 (L:List Fnd) (hlen:L.length<=20000) (hL0:0<L.length) (f1:NQ.Fn cx 6 [.agg (aZ w)] (.tuple [.d (.slice 3 (L.map cr)),.d (.int .i64 0)]) [])
 (fz:Bs) (hf1:L[p0 % L.length]? =some ⟨4,fz,fz⟩) (va:aq fz=true) (pz:ai) (hpz:(aY w.zones fz).map (·.2)=some pz) (hpm:pz∈w.zones) (hpa:pz.zone.apex=fz) (h3:dv w.zones fz≠some (mD pz.zone)):NQ.Fn cx 3 [.agg (aZ w),.int .u8 p0] (.d (.bool true)) []:=by
 have hz:∀p∈w.zones,aW p.zone=true:=λp hp=>(bB hv p hp).1
 refine cC (Am) aO mixed Tryz.func3 (by kernel_rfl) rfl (ag rfl) ?_
 conv=>whnf
 (refine⟨_,_,hH,?_⟩;conv=>whnf)
 (refine⟨_,_,fU,?_⟩;conv=>whnf)
 (refine⟨_,_,f1,?_⟩;conv=>whnf)
 refine ae (λg1=>?_) (λg1=>?_) <;> (rw[g1];conv=>whnf)
 . exact af rfl rfl
 have ew:IntKind.i64.wrap (p0:Int)=(p0:Int):=wrap_i64 (by omega) (by omega);have er:=qz (t:=3) (IntKind.i64.wrap (p0:Int)) (((L.map cr).length:Nat):Int) (by rw[ak];omega);have ek:(IntKind.i64.wrap (p0:Int)).tmod (((L.map cr).length:Nat):Int)=((p0 % L.length:Nat):Int):=by
  rw[ew,ak,Int.tmod_eq_emod_of_nonneg (by omega)];rfl
 rw[ek]at er;split
 case h_2 hb=>exact absurd (hb.symm.trans er) (by simp)
 case h_1 hb =>
 cases hb.symm.trans er
 conv=>whnf
 refine⟨aw _,cr ⟨4,fz,fz⟩,aG hf1,?_⟩
 conv=>whnf
 (refine⟨_,_,nv w fz hF,?_⟩;conv=>whnf)
 have hAl:=oE hF hv fz;refine⟨JZ w 4 fz fz (bJ w fz),aj.keep ⟨ab,ab,ab,ab,ab,trivial⟩ ⟨ab,ab,trivial⟩,?_⟩;obtain⟨x,hx,hx2⟩:∃x,aY w.zones fz=some x/\x.2=pz:=by
  cases h:aY w.zones fz with
  |none=>rw[h]at hpz;cases hpz
  |some x=>rw[h]at hpz;exact⟨x,rfl,by simpa using hpz⟩
 have hxz:=xn w.zones fz x hx;have f3:=ID w fz hF hv va (by rw[hx];rfl);have f4:=Dh w.zones fz hz (by omega);rw[hx,show Pc (some x)=((x.1:Nat):Int)from rfl]at f4;obtain⟨so,hso,hod,f5⟩:=FH (hz pz hpm);rw[hpa]at f5;rw[hx2]at hxz;have hsl:=((cS (hF.few pz hpm)).2 so hso).1
 conv=>whnf
 (refine⟨_,_,f3,?_⟩;conv=>whnf)
 (refine⟨_,_,f4,?_⟩;conv=>whnf)
 rw[show(!((Fnd.mk 4 fz fz).name==(Fnd.mk 4 fz fz).zone))=false from by simp]
 conv=>whnf
 rw[show decide (((x.1:Nat):Int)<0)=false from decide_eq_false (by omega)]
 conv=>whnf
 (refine⟨(by kernel_rfl:bg _ _=true),?_⟩;conv=>whnf)
 refine⟨aw _,aV pz,aG hxz,?_⟩
 conv=>whnf
 (refine⟨_,_,f5,?_⟩;conv=>whnf)
 cases hd:dv w.zones fz with
 |none =>
  conv=>whnf
  exact af rfl rfl
 |some l =>
  have f6:=wO so.set.data l (by omega);have hne:so.set.data≠l:=λe=>h3 (by rw[hd,hod,e])
  rw[decide_eq_false hne]at f6
  conv=>whnf
  (refine⟨_,_,f6,?_⟩;conv=>whnf)
  exact af rfl rfl
set_option maxHeartbeats 4000000 in
theorem Mv(hH:tN)(w:az)(p0:Nat)(hp2:p0<=255)(fU:NQ.Fn cx 5 [.agg (aZ w)] (.d (.bool true)) [])(hv:aN w=true)(hF:cA w)(hzl:w.zones.length<=20)
 (L:List Fnd) (hlen:L.length<=20000) (hL0:0<L.length) (f1:NQ.Fn cx 6 [.agg (aZ w)] (.tuple [.d (.slice 3 (L.map cr)),.d (.int .i64 0)]) [])
 (fz fs:Bs) (hf1:L[p0 % L.length]? =some ⟨3,fz,fs⟩) (va:aq fz=true) (vs:aq fs=true) (h3:bJ w fs=[]):NQ.Fn cx 3 [.agg (aZ w),.int .u8 p0] (.d (.bool true)) []:=by
 have hz:∀p∈w.zones,aW p.zone=true:=λp hp=>(bB hv p hp).1
 refine cC (Am) aO mixed Tryz.func3 (by kernel_rfl) rfl (ag rfl) ?_
 conv=>whnf
 (refine⟨_,_,hH,?_⟩;conv=>whnf)
 (refine⟨_,_,fU,?_⟩;conv=>whnf)
 (refine⟨_,_,f1,?_⟩;conv=>whnf)
 refine ae (λg1=>?_) (λg1=>?_) <;> (rw[g1];conv=>whnf)
 . exact af rfl rfl
 have ew:IntKind.i64.wrap (p0:Int)=(p0:Int):=wrap_i64 (by omega) (by omega);have er:=qz (t:=3) (IntKind.i64.wrap (p0:Int)) (((L.map cr).length:Nat):Int) (by rw[ak];omega);have ek:(IntKind.i64.wrap (p0:Int)).tmod (((L.map cr).length:Nat):Int)=((p0 % L.length:Nat):Int):=by
  rw[ew,ak,Int.tmod_eq_emod_of_nonneg (by omega)];rfl
 rw[ek]at er;split
 case h_2 hb=>exact absurd (hb.symm.trans er) (by simp)
 case h_1 hb =>
 cases hb.symm.trans er
 conv=>whnf
 refine⟨aw _,cr ⟨3,fz,fs⟩,aG hf1,?_⟩
 conv=>whnf
 (refine⟨_,_,nv w fs hF,?_⟩;conv=>whnf)
 have hAl:=oE hF hv fs;refine⟨JZ w 3 fz fs (bJ w fs),aj.keep ⟨ab,ab,ab,ab,ab,trivial⟩ ⟨ab,ab,trivial⟩,?_⟩
 conv=>whnf
 rw[h3];exact af rfl rfl
set_option maxHeartbeats 4000000 in
theorem Mt(hH:tN)(w:az)(p0:Nat)(hp2:p0<=255)(fU:NQ.Fn cx 5 [.agg (aZ w)] (.d (.bool true)) [])(hv:aN w=true)(hF:cA w)(hzl:w.zones.length<=20)
 (L:List Fnd) (hlen:L.length<=20000) (hL0:0<L.length) (f1:NQ.Fn cx 6 [.agg (aZ w)] (.tuple [.d (.slice 3 (L.map cr)),.d (.int .i64 0)]) [])
 (fz fs:Bs) (hf1:L[p0 % L.length]? =some ⟨1,fz,fs⟩) (va:aq fz=true) (vs:aq fs=true) (y:Datum) (hy:y∈bJ w fs) (hys:bM w fz y.n=false):NQ.Fn cx 3 [.agg (aZ w),.int .u8 p0] (.d (.bool true)) []:=by
 have hz:∀p∈w.zones,aW p.zone=true:=λp hp=>(bB hv p hp).1
 refine cC (Am) aO mixed Tryz.func3 (by kernel_rfl) rfl (ag rfl) ?_
 conv=>whnf
 (refine⟨_,_,hH,?_⟩;conv=>whnf)
 (refine⟨_,_,fU,?_⟩;conv=>whnf)
 (refine⟨_,_,f1,?_⟩;conv=>whnf)
 refine ae (λg1=>?_) (λg1=>?_) <;> (rw[g1];conv=>whnf)
 . exact af rfl rfl
 have ew:IntKind.i64.wrap (p0:Int)=(p0:Int):=wrap_i64 (by omega) (by omega);have er:=qz (t:=3) (IntKind.i64.wrap (p0:Int)) (((L.map cr).length:Nat):Int) (by rw[ak];omega);have ek:(IntKind.i64.wrap (p0:Int)).tmod (((L.map cr).length:Nat):Int)=((p0 % L.length:Nat):Int):=by
  rw[ew,ak,Int.tmod_eq_emod_of_nonneg (by omega)];rfl
 rw[ek]at er;split
 case h_2 hb=>exact absurd (hb.symm.trans er) (by simp)
 case h_1 hb =>
 cases hb.symm.trans er
 conv=>whnf
 refine⟨aw _,cr ⟨1,fz,fs⟩,aG hf1,?_⟩
 conv=>whnf
 (refine⟨_,_,nv w fs hF,?_⟩;conv=>whnf)
 have hAl:=oE hF hv fs;refine⟨JZ w 1 fz fs (bJ w fs),aj.keep ⟨ab,ab,ab,ab,ab,trivial⟩ ⟨ab,ab,trivial⟩,?_⟩
 conv=>whnf
 generalize bJ w fs=A at *
 refine⟨Nat,λk=>Pv w fz fs A k,λk=>k<=A.length/\ ∀e∈A.take k,bM w fz e.n=true,λk=>A.length-k,⟨0,⟨Nat.zero_le _,λe he=>by simp at he⟩,aj.keep ⟨ab,ab,ab,ab,ab,ab,trivial⟩ ⟨ab,ab,trivial⟩⟩,λk ⟨hk,hall⟩=>?_⟩;refine RE w hv hF fz fs va A hAl k hk _ (λs d hd h6 hw=>?_) (λs h=>h) (λs hke=>?_)
 . have hlt:=(ar.1 hd).1;refine⟨k+1,⟨hlt,λe he=>?_⟩,by(show A.length-(k+1)<A.length-k;omega),hw⟩;rw[bj hd]at he;rcases List.mem_append.1 he with he|he
   . exact hall e he
   . rw[List.mem_singleton]at he;subst he;exact h6
 . exfalso
   subst hke;rw[List.take_length]at hall;rw[hall y hy]at hys;cases hys
set_option maxHeartbeats 4000000 in
theorem Mu(hH:tN)(w:az)(p0:Nat)(hp2:p0<=255)(fU:NQ.Fn cx 5 [.agg (aZ w)] (.d (.bool true)) [])(hv:aN w=true)(hF:cA w)(hzl:w.zones.length<=20)
 (L:List Fnd) (hlen:L.length<=20000) (hL0:0<L.length) (f1:NQ.Fn cx 6 [.agg (aZ w)] (.tuple [.d (.slice 3 (L.map cr)),.d (.int .i64 0)]) [])
 (fz:Bs) (s:Signed) (hf1:L[p0 % L.length]? =some ⟨2,fz,s.set.name⟩) (pz:ai) (hpm:pz∈w.zones) (hpa:pz.zone.apex=fz) (hsm:s∈pz.zone.sets) (hsg:gq pz.zone s=true) (hsd:s.set.data≠bJ w s.set.name):NQ.Fn cx 3 [.agg (aZ w),.int .u8 p0] (.d (.bool true)) []:=by
 have hz:∀p∈w.zones,aW p.zone=true:=λp hp=>(bB hv p hp).1
 refine cC (Am) aO mixed Tryz.func3 (by kernel_rfl) rfl (ag rfl) ?_
 conv=>whnf
 (refine⟨_,_,hH,?_⟩;conv=>whnf)
 (refine⟨_,_,fU,?_⟩;conv=>whnf)
 (refine⟨_,_,f1,?_⟩;conv=>whnf)
 refine ae (λg1=>?_) (λg1=>?_) <;> (rw[g1];conv=>whnf)
 . exact af rfl rfl
 have ew:IntKind.i64.wrap (p0:Int)=(p0:Int):=wrap_i64 (by omega) (by omega);have er:=qz (t:=3) (IntKind.i64.wrap (p0:Int)) (((L.map cr).length:Nat):Int) (by rw[ak];omega);have ek:(IntKind.i64.wrap (p0:Int)).tmod (((L.map cr).length:Nat):Int)=((p0 % L.length:Nat):Int):=by
  rw[ew,ak,Int.tmod_eq_emod_of_nonneg (by omega)];rfl
 rw[ek]at er;split
 case h_2 hb=>exact absurd (hb.symm.trans er) (by simp)
 case h_1 hb =>
 cases hb.symm.trans er
 conv=>whnf
 refine⟨aw _,cr ⟨2,fz,s.set.name⟩,aG hf1,?_⟩
 conv=>whnf
 (refine⟨_,_,nv w s.set.name hF,?_⟩;conv=>whnf)
 have hAl:=oE hF hv s.set.name;refine⟨JZ w 2 fz s.set.name (bJ w s.set.name),aj.keep ⟨ab,ab,ab,ab,ab,trivial⟩ ⟨ab,ab,trivial⟩,?_⟩
 conv=>whnf
 generalize bJ w s.set.name=A at *
 obtain⟨ht,c,hcut⟩:=KX (hz pz hpm) hsm hsg;obtain⟨ip,hip⟩:=cj hpm;have hipl:=(ar.1 hip).1;have hfind:iw pz.zone ⟨s.set.name,1⟩=(s,true,0):=by
  have:=jk (hz pz hpm) hsm;unfold qOf at this;rw[ht]at this;exact this
 refine⟨Nat,λk=>Pw w fz s.set.name A k,λk=>k<=ip,λk=>w.zones.length-k,⟨0,Nat.zero_le _,aj.keep ⟨ab,ab,ab,ab,ab,ab,ab,trivial⟩ ⟨ab,ab,trivial⟩⟩,λk hk=>?_⟩;have hlt:k<w.zones.length:=Nat.lt_of_le_of_lt hk hipl;obtain⟨p,hp⟩:∃p,w.zones[k]? =some p:=⟨_,ah hlt⟩
 refine RF w hv hF hzl fz s.set.name A k p hp _ (λst hno hw=>?_) (λst h=>h);have hne:k≠ip:=λe=>by
  subst e;rw[hip]at hp;cases hp;refine hno ⟨hpa,?_⟩;rw[hfind,hcut];exact⟨rfl,rfl,rfl,rfl,hsd⟩
 exact⟨k+1,by(show k+1<=ip;omega),by(show w.zones.length-(k+1)<w.zones.length-k;omega),hw⟩
theorem DV(hH:tN)(w:az)(pick:Int)(hpk:(Lit.int .u8 pick).wf=true):NQ.Fn cx 3 [.agg (aZ w),.int .u8 pick] (.d (.bool true)) []:=by
 have fU:=Gx w;cases hu:(lg w&&aN w)with
 |false =>
  rw[hu]at fU;refine aA aO mixed Tryz.func3 (by kernel_rfl) rfl (ag rfl) ?_;conv=>whnf
  (refine⟨_,_,hH,?_⟩;conv=>whnf)
  (refine⟨_,_,fU,?_⟩;conv=>whnf)
  exact af rfl rfl
 |true =>
 rw[hu]at fU;obtain⟨hf,hv⟩:lg w=true/\aN w=true:=by simpa using hu
 obtain⟨hF,hzl⟩:=Of hf;obtain⟨p0,rfl⟩:∃n:Nat,pick=n:=⟨pick.toNat,by have:=(Qp hpk).1;omega⟩
 have hp2:p0<=255:=by have:=(Qp hpk).2;omega
 have f1:=lr w hF (by omega);have hlen:=QS hF (by omega);have e1:nc w=(rh w,0):=by unfold nc;rw[if_pos hv]
 rw[e1]at f1 hlen;have hok:∀f∈rh w,yh f:=λf hf=>Lp hF hv (lU.1 hf)
 have hsay:=λf (h:f∈rh w)=>Om hF hv h
 dsimp only at hlen f1;generalize rh w=L at *
 by_cases hL:L=[]
 . subst hL;refine aA aO mixed Tryz.func3 (by kernel_rfl) rfl (ag rfl) ?_;conv=>whnf
   (refine⟨_,_,hH,?_⟩;conv=>whnf)
   (refine⟨_,_,fU,?_⟩;conv=>whnf)
   (refine⟨_,_,f1,?_⟩;conv=>whnf)
   exact af rfl rfl
 have hL0:0<L.length:=List.length_pos_iff.2 hL;obtain⟨⟨fk,fz,fs⟩,hf1⟩:∃f,L[p0 % L.length]? =some f:=⟨_,ah (Nat.mod_lt _ hL0)⟩
 have hfm:=ao hf1;obtain⟨va,vs⟩:=hok _ hfm;obtain⟨pz,hpz,hpm,hpa,hs⟩:=hsay _ hfm;dsimp only at hs hpa hpz va vs;rcases hs with ⟨rfl,rfl,h3⟩|⟨rfl,h3⟩|⟨rfl,y,hy,hys⟩|⟨rfl,s,hsm,hsg,rfl,hsd⟩
 . exact Mw hH w p0 hp2 fU hv hF hzl L hlen hL0 f1 _ hf1 va pz hpz hpm hpa h3
 . exact Mv hH w p0 hp2 fU hv hF hzl L hlen hL0 f1 fz fs hf1 va vs h3
 . exact Mt hH w p0 hp2 fU hv hF hzl L hlen hL0 f1 fz fs hf1 va vs y hy hys
 . exact Mu hH w p0 hp2 fU hv hF hzl L hlen hL0 f1 fz s hf1 pz hpm hpa hsm hsg hsd
theorem DU(w:az)(x:Int)(b:(Lit.int .u8 x).wf=true):NQ.Fn cx 3 [.agg (aZ w),.int .u8 x] (.d (.bool true)) []:=DV Ly w x b
end Go.Proofs.YtmaepddmaghpjaaGreatDoor
