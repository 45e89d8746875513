/-
  Texts of the proof, merged in build order.
-/
import Derived.Test.YtcecidfnchcagaaGreatDoorAbM
import Derived.Test.YtcecidfnchcagaaGreatDoorLrbM
import Derived.Test.YtcecidfnchcagaaGreatDoorMLcv
import Derived.Test.YtcecidfnchcagaaGreatDoorMVa
set_option linter.all false
set_option maxRecDepth 100000
namespace NP
open NQ Go
def pZ(l:List Signed):List Datum:=match l[0]? with | some s=>s.set.data | none=>[]
def iR(z:aP)(cut:Bs)(l:List Signed)(h:List Datum):List Signed:=h.foldl (fun l d=>if aL d.text cut=true then bl l z ⟨d.text,1⟩else l) l
def rl0(z:aP)(cut:Bs):List Signed:=bl [] z ⟨cut,2⟩
def rl1(z:aP)(cut:Bs):List Signed:=bl (rl0 z cut) z ⟨cut,6⟩
def rl2(z:aP)(cut:Bs):List Signed:=if (((rl1 z cut).length:Int)==((rl0 z cut).length:Int))=true then bl (rl1 z cut) z ⟨cut,8⟩else rl1 z cut
def ko(z:aP)(cut:Bs):Ans:=⟨4,iR z cut (rl2 z cut) (pZ (rl0 z cut)),cut⟩
theorem xj(z:aP)(cut:Bs)(l:List Signed)(h:List Datum)(d:Datum):iR z cut l (h++[d])=if aL d.text cut=true then bl (iR z cut l h) z ⟨d.text,1⟩else iR z cut l h:=by
 unfold iR;rw[List.foldl_append];rfl
theorem s4(z:aP)(cut:Bs):∀(h:List Datum) (l:List Signed),(iR z cut l h).length<=l.length+h.length
 | [],l=>by simp[iR]
 | d::h,l=>by
  have e:iR z cut l (d::h)=iR z cut (if aL d.text cut=true then bl l z ⟨d.text,1⟩else l) h:=rfl;rw[e];have:=s4 z cut h (if aL d.text cut=true then bl l z ⟨d.text,1⟩else l);have h2:=iG l z ⟨d.text,1⟩;rw[List.length_cons];split at this <;> rename_i hc <;> simp only[hc,if_true,if_false,av] <;> omega
theorem zn{s:fI}(h:dW s=true)(ht:s.type=2):∀d∈s.data,aj d.text=true:=fun d hd=>by
 unfold dW at h;simp only[aN,ay,List.mem_range]at h;obtain⟨i,hi⟩:=bV hd;have hlt:=(aq.1 hi).1;have:=h.2 i hlt;obtain⟨p,hp⟩:∃p,s.data[i-1]? =some p:=⟨_,ah (by omega)⟩
 rw[vz hi hp,ht]at this;have hr:fe 2=⟨1,0,0,0,0,false,false,false⟩:=rfl;rw[hr]at this;simp only[nh,fq,jX,Bool.not_eq_true',Bool.or_eq_false_iff,Bool.not_eq_false',aN,if_true]at this;exact this.1.2.1
theorem Ep{z:aP}(ho:Ordered z)(hf:eu z=true):∀s∈z.sets,s.set.data.length<=900/\(s.set.type=2-> ∀d∈s.set.data,aj d.text=true):=fun s hs =>
 ⟨by have:=((dx hf).2 s hs).1;omega,fun ht=>zn (ho.set s hs) ht⟩
theorem sd{z:aP}{n:Bs}(ho:Ordered z)(h:bq z n ≠ []):aj (bq z n)=true/\b9 z.sets ⟨bq z n,2⟩=true:=by
 unfold bq at h ⊢;cases hf:(cD z.apex z.sets).find? fun c=>aL n c with
 | none=>rw[hf]at h;exact absurd rfl h
 | some c =>
  have hm:=List.mem_of_find?_eq_some hf;obtain⟨_,_,h3,_,h5⟩:=GS ho hm;exact⟨h3,h5⟩
theorem qM{z:aP}{q:aW}(h:b9 z.sets q=true):cP z q.name=true:=by
 obtain⟨s,hs,hp⟩:=mu.1 h;have:s.set.name=q.name:=congrArg Prod.fst hp;exact List.any_eq_true.2 ⟨s,hs,by rw[this];exact fp _⟩
theorem EX(l:List Signed)(z:aP)(n:Bs):(bJ l z n).length<=l.length+1:=by
 unfold bJ;split
 . exact iG _ _ _
 . omega
theorem rI{z:aP}{n:Bs}(hn:aj n=true):aj (cS z n)=true:=by
 unfold cS;generalize (bc n).length+1=f;induction f generalizing n with
 | zero=>exact hn
 | succ f ih =>
  rw[vq];split
  . exact hn
  . exact ih (eS hn)
theorem GU{c:Bs}(h:(!(c==[]))=true):c ≠ []:=by intro e;rw[e]at h;cases h
theorem vj{z:aP}{q:aW}(h:b9 z.sets q=true):∃s,s∈z.sets/\s.place=q.place/\bl [] z q=[s]:=by
 obtain⟨k,s,h1,h2,h3⟩:=nN h;refine⟨s,ao h2,h3,?_⟩;unfold bl;rw[h1,if_neg (by simp),if_neg (by simp[b9])];simp[h2]
theorem Gq{z:aP}{q:aW}(h:b9 z.sets q=false):bl [] z q=[]:=by
 unfold bl;rw[jl,h];rfl
def fk(q:aW):Bool:=q.type==6||q.type==8
def kV(z:aP)(q:aW):Ans×Int :=
 if (!bD z|| !bB q)=true then(gr,1)else if (!aL q.name z.apex)=true then(⟨7,[],[]⟩,0)
 else if (!(bq z q.name==[])&&(!(bq z q.name==q.name)|| !fk q))=true then(ko z (bq z q.name),0)
 else if decide (((bl [] z q).length:Int)>0)=true then(⟨1,bl [] z q,[]⟩,0)
 else if (decide (((bl [] z ⟨q.name,3⟩).length:Int)>0)&&(q.type != 8))=true then(⟨3,bl [] z ⟨q.name,3⟩,[]⟩,0)
 else if cP z q.name=true then(⟨5,bJ (bl [] z ⟨z.apex,4⟩) z q.name,[]⟩,0)
 else if (!((cy ([42]::bc (cS z q.name))).2==0))=true then(⟨6,bJ (bl [] z ⟨z.apex,4⟩) z q.name,[]⟩,0)
 else let w:=(cy ([42]::bc (cS z q.name))).1
 if decide (((bl [] z ⟨w,q.type⟩).length:Int)>0)=true then(⟨2,bJ (bl [] z ⟨w,q.type⟩) z q.name,[]⟩,0)
 else if (decide (((bl [] z ⟨w,3⟩).length:Int)>0)&&(q.type != 8))=true then(⟨3,bJ (bl [] z ⟨w,3⟩) z q.name,[]⟩,0)
 else if cP z w=true then(⟨5,bJ (bJ (bl [] z ⟨z.apex,4⟩) z q.name) z w,[]⟩,0)
 else(⟨6,bJ (bJ (bl [] z ⟨z.apex,4⟩) z q.name) z w,[]⟩,0)
end NP
namespace Go.Proofs.YtcecidfnchcagaaGreatDoor
open NQ Go NP Go.RowKit
theorem Im(z:aP)(cut:Bs)(hz:z.sets.length<=10000)(hc:aj cut=true)(hcut:b9 z.sets ⟨cut,2⟩=true)(hd:∀s∈z.sets,s.set.data.length<=900/\(s.set.type=2-> ∀d∈s.set.data,aj d.text=true)) :
 NQ.Fn cx 150 [.agg (bo z), .str cut] (.agg ((dv (ko z cut)).map .d)) []:=by
 show NQ.Fn cxR _ _ _ _
 refine cV (fun | 11=>[66666] | _=>[]) tyR BG Tryz.func150 (by kernel_rfl) rfl (ag rfl) ?_
 conv=>whnf
 have addK:∀(l:List Signed) (fl:Bool) (n:Bs) (t:Int),l.length<=100000->FnR cxR 151 true 79 5 (l.map au) fl [.agg (bo z), .str n, .int .i64 t] ((bl l z ⟨n,t⟩).map au):=fun l fl n t hl=>gV (cx:=cx) (cx' :=cxR) rfl rfl (mg l fl z n t hl (by omega))
 obtain⟨s0,hs0,hp0,e0⟩:=vj hcut;have hr0:rl0 z cut=[s0]:=e0;have hdat:=(hd s0 hs0).1;have hdn:=(hd s0 hs0).2 (by have:=congrArg Prod.snd hp0;exact this);refine⟨_,addK [] false cut 2 (by simp),?_⟩
 conv=>whnf
 rw[e0];refine⟨by decide,by simp,?_⟩
 conv=>whnf
 refine⟨_,rfl,?_⟩
 conv=>whnf
 refine⟨_,addK [s0] _ cut 6 (by simp),?_⟩
 conv=>whnf
 have hr1:rl1 z cut=bl [s0] z ⟨cut,6⟩:=by unfold rl1;rw[hr0]
 have hl1:=iG [s0] z ⟨cut,6⟩;have hl2:=iG (bl [s0] z ⟨cut,6⟩) z ⟨cut,8⟩;have hlist:(((bl [s0] z ⟨cut,6⟩).map au).length:Int)=((rl1 z cut).length:Int):=by rw[ak,hr1]
 have hlist0:(([s0].map au).length:Int)=((rl0 z cut).length:Int):=by rw[ak,hr0]
 rw[hlist,hlist0];have hho:pZ (rl0 z cut)=s0.set.data:=by unfold pZ;rw[hr0];rfl
 have h2len:(rl2 z cut).length<=3:=by
  unfold rl2;rw[hr1];have h1' :[s0].length=1:=rfl;split <;> omega
 refine ae (fun heq=>?_) (fun heq=>?_) <;> (rw[heq];conv=>whnf)
 . have hr2:rl2 z cut=bl (bl [s0] z ⟨cut,6⟩) z ⟨cut,8⟩:=by unfold rl2;rw[if_pos heq,hr1]
   refine⟨_,addK (bl [s0] z ⟨cut,6⟩) _ cut 8 (by simp at hl1;omega),?_⟩
   conv=>whnf
   (refine⟨Nat,fun k=>⟨[(1, .d (.str cut)),(2, .ptr 2 0),(4, .ptr 4 0),(5, .own 11),(6, .d (.slice 3 (s0.set.data.map b5))),(8, .d (.int .i64 k))],[(2, .box ((bo z).map .d)),(4, .box [.d (.int .i64 0), .nil 5, .d (.str [])]),(11, .row 79 5 ((iR z cut (rl2 z cut) (s0.set.data.take k)).map au))]⟩,fun k=>k<=s0.set.data.length,fun k=>s0.set.data.length-k,⟨0,by omega,an.keep ⟨⟨rfl,rfl⟩,⟨rfl,rfl⟩,⟨rfl,rfl⟩,⟨rfl,rfl⟩,⟨rfl,rfl⟩,⟨rfl,rfl⟩,trivial⟩ ⟨⟨rfl,rfl⟩,⟨rfl,rfl⟩,⟨by(rw[hr2];rfl),rfl⟩,trivial⟩⟩,fun k hk=>?_⟩;(conv=>whnf);refine ae (fun h1=>?_) (fun h1=>?_) <;> (rw[h1];conv=>whnf))
   . have hlt:k<s0.set.data.length:=by simp at h1;omega
     obtain⟨d,hdk⟩:∃d,s0.set.data[k]? =some d:=⟨_,ah hlt⟩
     have hdv:=hdn d (ao hdk);have hsn:=xj z cut (rl2 z cut) (s0.set.data.take k) d;rw[<- bw hdk]at hsn;have hrl:=s4 z cut (s0.set.data.take k) (rl2 z cut);rw[List.length_take]at hrl;refine⟨aJ k,b5 d,aT hdk,?_⟩
     conv=>whnf
     (refine⟨_,_,lD d.text cut (bP hdv) (bP hc),?_⟩;conv=>whnf)
     refine ae (fun hu=>?_) (fun hu=>?_) <;> (rw[hu];conv=>whnf)
     . rw[if_pos hu]at hsn
       (refine⟨(by kernel_rfl:iy _=true),?_⟩;conv=>whnf)
       refine⟨aJ k,b5 d,aT hdk,?_⟩
       conv=>whnf
       refine⟨_,addK _ _ d.text 1 (by omega),?_⟩
       conv=>whnf
       (repeat (refine⟨by kernel_rfl,?_⟩));conv=>whnf
       exact⟨k+1,hlt,by(show s0.set.data.length-(k+1)<s0.set.data.length-k;omega),an.keep ⟨⟨rfl,rfl⟩,⟨rfl,rfl⟩,⟨rfl,rfl⟩,⟨rfl,rfl⟩,⟨rfl,rfl⟩,⟨ar (by omega),rfl⟩,trivial⟩ ⟨⟨rfl,rfl⟩,⟨rfl,rfl⟩,⟨by(rw[hsn];rfl),rfl⟩,trivial⟩⟩
     . rw[if_neg (by simp[hu])]at hsn;exact⟨k+1,hlt,by(show s0.set.data.length-(k+1)<s0.set.data.length-k;omega),an.keep ⟨⟨rfl,rfl⟩,⟨rfl,rfl⟩,⟨rfl,rfl⟩,⟨rfl,rfl⟩,⟨rfl,rfl⟩,⟨ar (by omega),rfl⟩,trivial⟩ ⟨⟨rfl,rfl⟩,⟨rfl,rfl⟩,⟨by(rw[hsn];rfl),rfl⟩,trivial⟩⟩
   . obtain rfl:k=s0.set.data.length:=by simp at h1;omega
     refine af rfl ?_;unfold ko;rw[hho,List.take_length];rfl
 . have hr2:rl2 z cut=bl [s0] z ⟨cut,6⟩:=by unfold rl2;rw[if_neg (by simp[heq]),hr1]
   (refine⟨Nat,fun k=>⟨[(1, .d (.str cut)),(2, .ptr 2 0),(4, .ptr 4 0),(5, .own 11),(6, .d (.slice 3 (s0.set.data.map b5))),(8, .d (.int .i64 k))],[(2, .box ((bo z).map .d)),(4, .box [.d (.int .i64 0), .nil 5, .d (.str [])]),(11, .row 79 5 ((iR z cut (rl2 z cut) (s0.set.data.take k)).map au))]⟩,fun k=>k<=s0.set.data.length,fun k=>s0.set.data.length-k,⟨0,by omega,an.keep ⟨⟨rfl,rfl⟩,⟨rfl,rfl⟩,⟨rfl,rfl⟩,⟨rfl,rfl⟩,⟨rfl,rfl⟩,⟨rfl,rfl⟩,trivial⟩ ⟨⟨rfl,rfl⟩,⟨rfl,rfl⟩,⟨by(rw[hr2];rfl),rfl⟩,trivial⟩⟩,fun k hk=>?_⟩;(conv=>whnf);refine ae (fun h1=>?_) (fun h1=>?_) <;> (rw[h1];conv=>whnf))
   . have hlt:k<s0.set.data.length:=by simp at h1;omega
     obtain⟨d,hdk⟩:∃d,s0.set.data[k]? =some d:=⟨_,ah hlt⟩
     have hdv:=hdn d (ao hdk);have hsn:=xj z cut (rl2 z cut) (s0.set.data.take k) d;rw[<- bw hdk]at hsn;have hrl:=s4 z cut (s0.set.data.take k) (rl2 z cut);rw[List.length_take]at hrl;refine⟨aJ k,b5 d,aT hdk,?_⟩
     conv=>whnf
     (refine⟨_,_,lD d.text cut (bP hdv) (bP hc),?_⟩;conv=>whnf)
     refine ae (fun hu=>?_) (fun hu=>?_) <;> (rw[hu];conv=>whnf)
     . rw[if_pos hu]at hsn
       (refine⟨(by kernel_rfl:iy _=true),?_⟩;conv=>whnf)
       refine⟨aJ k,b5 d,aT hdk,?_⟩
       conv=>whnf
       refine⟨_,addK _ _ d.text 1 (by omega),?_⟩
       conv=>whnf
       (repeat (refine⟨by kernel_rfl,?_⟩));conv=>whnf
       exact⟨k+1,hlt,by(show s0.set.data.length-(k+1)<s0.set.data.length-k;omega),an.keep ⟨⟨rfl,rfl⟩,⟨rfl,rfl⟩,⟨rfl,rfl⟩,⟨rfl,rfl⟩,⟨rfl,rfl⟩,⟨ar (by omega),rfl⟩,trivial⟩ ⟨⟨rfl,rfl⟩,⟨rfl,rfl⟩,⟨by(rw[hsn];rfl),rfl⟩,trivial⟩⟩
     . rw[if_neg (by simp[hu])]at hsn;exact⟨k+1,hlt,by(show s0.set.data.length-(k+1)<s0.set.data.length-k;omega),an.keep ⟨⟨rfl,rfl⟩,⟨rfl,rfl⟩,⟨rfl,rfl⟩,⟨rfl,rfl⟩,⟨rfl,rfl⟩,⟨ar (by omega),rfl⟩,trivial⟩ ⟨⟨rfl,rfl⟩,⟨rfl,rfl⟩,⟨by(rw[hsn];rfl),rfl⟩,trivial⟩⟩
   . obtain rfl:k=s0.set.data.length:=by simp at h1;omega
     refine af rfl ?_;unfold ko;rw[hho,List.take_length];rfl
def fzR:Nat->List Nat
 | 11=>[55555]
 | 14=>[55555]
 | 17=>[66666,55555]
 | 18=>[55555]
 | 20=>[55555]
 | 23=>[55555]
 | 26=>[55555]
 | 29=>[55555]
 | _=>[]
def stR(z:aP)(q:aW):St:=⟨[(2, .ptr 2 0),(3, .ptr 3 0),(4, .ptr 4 0)],[(2, .box ((bo z).map .d)),(3, .box ((cm q).map .d)),(4, .box [.d (.int .i64 0), .nil 5, .d (.str [])])]⟩
def Ca(z:aP)(q:aW)(w:Bs)(proof:List Signed):St:=⟨[(2, .ptr 2 0),(3, .ptr 3 0),(4, .ptr 4 0),(11, .own 87),(12, .d (.str w))],[(2, .box ((bo z).map .d)),(3, .box ((cm q).map .d)),(4, .box [.d (.int .i64 0), .nil 5, .d (.str [])]),(87, .row 79 5 (proof.map au))]⟩
def Nd(z:aP)(q:aW)(proof:List Signed):St:=⟨[(2, .ptr 2 0),(3, .ptr 3 0),(4, .ptr 4 0),(11, .own 87)],[(2, .box ((bo z).map .d)),(3, .box ((cm q).map .d)),(4, .box [.d (.int .i64 0), .nil 5, .d (.str [])]),(87, .row 79 5 (proof.map au))]⟩
theorem rN(z:aP)(q:aW)(hf:eu z=true)(hv:bD z=true)(hq:bB q=true)(w:Bs)(hwv:aj w=true)(proof:List Signed)(hpl:proof.length<=1000)(r:Ans×Int)(hr:(if cP z w=true then((⟨5,bJ proof z w,[]⟩:Ans),(0:Int))else(⟨6,bJ proof z w,[]⟩,0))=r)(st:St)(hw:an cxR st (Ca z q w proof)) :
 vc cxR Tryz.f84.ntmps fzR (n9 20 ((Tryz.f84.body).getD .skip)) (fnQ cxR Tryz.f84.results.toList (.tuple [.agg ((dv r.1).map .d), .d (.int .i64 r.2)]) []) st:=by
 obtain⟨f1,f2⟩:=dx hf;have hz5:z.sets.length<=100000:=by omega
 have addK:∀(l:List Signed) (fl:Bool) (n:Bs) (t:Int),l.length<=100000->FnR cxR 151 true 79 5 (l.map au) fl [.agg (bo z), .str n, .int .i64 t] ((bl l z ⟨n,t⟩).map au):=fun l fl n t hl=>gV (cx:=cx) (cx' :=cxR) rfl rfl (mg l fl z n t hl hz5)
 have lenE:∀n t,(((bl [] z ⟨n,t⟩).map au).length:Int)=((bl [] z ⟨n,t⟩).length:Int):=fun n t=>by rw[ak]
 have len1:∀n t,(bl [] z ⟨n,t⟩).length<=100:=fun n t=>by have:=iG [] z ⟨n,t⟩;simp at this;omega
 have ho:=bx hv;have hqn:aj q.name=true:=by unfold bB at hq;simp only[aN]at hq;exact hq.1.1
 have covK:∀(l:List Signed) (fl:Bool) (n:Bs),l.length<=100000->aj n=true->FnR cxR 152 true 79 5 (l.map au) fl [.agg (bo z), .str n] ((bJ l z n).map au):=fun l fl n hl hn=>gV (cx:=cx) (cx' :=cxR) rfl rfl (nf l fl z n hl hz5 ho.name hn)
 conv=>whnf
 refine⟨Ca z q w proof,hw,?_⟩
 conv=>whnf
 refine⟨_,covK proof _ w (by omega) hwv,?_⟩
 conv=>whnf
 (refine⟨_,_,qK z w hz5 ho.name hwv,?_⟩;conv=>whnf)
 refine ae (fun hew=>?_) (fun hew=>?_) <;> (rw[hew];conv=>whnf)
 . rw[if_pos hew]at hr;subst hr;exact af rfl rfl
 . rw[if_neg (by rw[hew];simp)]at hr;subst hr;exact af rfl rfl
theorem zT(z : aP)(q : aW)(hf : eu z = true)(hv : bD z = true)(hq : bB q = true)(w : Bs)(hwv : aj w = true)(proof : List Signed)(hpl : proof.length <= 1000)(r : Ans × Int)(hr : (if decide (((bl [] z ⟨w, q.type⟩).length : Int) > 0) = true then ((⟨2, bJ (bl [] z ⟨w, q.type⟩) z q.name, []⟩ : Ans), (0 : Int))
      else if (decide (((bl [] z ⟨w,3⟩).length:Int)>0)&&(q.type != 8))=true then(⟨3,bJ (bl [] z ⟨w,3⟩) z q.name,[]⟩,0)
      else if cP z w=true then(⟨5,bJ proof z w,[]⟩,0)else(⟨6,bJ proof z w,[]⟩,0))=r) (st:St) (hw:an cxR st (Ca z q w proof)) :
 vc cxR Tryz.f84.ntmps fzR (n9 16 ((Tryz.f84.body).getD .skip)) (fnQ cxR Tryz.f84.results.toList (.tuple [.agg ((dv r.1).map .d), .d (.int .i64 r.2)]) []) st:=by
 obtain⟨f1,f2⟩:=dx hf;have hz5:z.sets.length<=100000:=by omega
 have addK:∀(l:List Signed) (fl:Bool) (n:Bs) (t:Int),l.length<=100000->FnR cxR 151 true 79 5 (l.map au) fl [.agg (bo z), .str n, .int .i64 t] ((bl l z ⟨n,t⟩).map au):=fun l fl n t hl=>gV (cx:=cx) (cx' :=cxR) rfl rfl (mg l fl z n t hl hz5)
 have lenE:∀n t,(((bl [] z ⟨n,t⟩).map au).length:Int)=((bl [] z ⟨n,t⟩).length:Int):=fun n t=>by rw[ak]
 have len1:∀n t,(bl [] z ⟨n,t⟩).length<=100:=fun n t=>by have:=iG [] z ⟨n,t⟩;simp at this;omega
 have ho:=bx hv;have hqn:aj q.name=true:=by unfold bB at hq;simp only[aN]at hq;exact hq.1.1
 have covK:∀(l:List Signed) (fl:Bool) (n:Bs),l.length<=100000->aj n=true->FnR cxR 152 true 79 5 (l.map au) fl [.agg (bo z), .str n] ((bJ l z n).map au):=fun l fl n hl hn=>gV (cx:=cx) (cx' :=cxR) rfl rfl (nf l fl z n hl hz5 ho.name hn)
 conv=>whnf
 refine⟨Ca z q w proof,hw,?_⟩
 conv=>whnf
 refine⟨_,addK [] false w q.type (by simp),?_⟩
 conv=>whnf
 rw[lenE];refine ae (fun hdw=>?_) (fun hdw=>?_) <;> (rw[hdw];conv=>whnf)
 . rw[if_pos hdw]at hr;subst hr;refine⟨_,covK (bl [] z ⟨w,q.type⟩) _ q.name (by have:=len1 w q.type;omega) hqn,?_⟩
   conv=>whnf
   exact af rfl rfl
 rw[if_neg (by rw[hdw];simp)]at hr;refine⟨Ca z q w proof,an.keep ⟨⟨rfl,rfl⟩,⟨rfl,rfl⟩,⟨rfl,rfl⟩,⟨rfl,rfl⟩,⟨rfl,rfl⟩,trivial⟩ ⟨⟨rfl,rfl⟩,⟨rfl,rfl⟩,⟨rfl,rfl⟩,⟨rfl,rfl⟩,trivial⟩,?_⟩
 conv=>whnf
 refine⟨_,addK [] false w 3 (by simp),?_⟩
 conv=>whnf
 rw[lenE];refine ae (fun haw=>?_) (fun haw=>?_) <;> (rw[haw];conv=>whnf)
 . refine ae (fun h8w=>?_) (fun h8w=>?_) <;> (rw[h8w];conv=>whnf)
   . rw[if_pos (by rw[haw,h8w];rfl)]at hr;subst hr;refine⟨_,covK (bl [] z ⟨w,3⟩) _ q.name (by have:=len1 w 3;omega) hqn,?_⟩
     conv=>whnf
     exact af rfl rfl
   . rw[if_neg (by rw[haw,h8w];simp)]at hr;exact rN z q hf hv hq w hwv proof hpl r hr _ (an.keep ⟨⟨rfl,rfl⟩,⟨rfl,rfl⟩,⟨rfl,rfl⟩,⟨rfl,rfl⟩,⟨rfl,rfl⟩,trivial⟩ ⟨⟨rfl,rfl⟩,⟨rfl,rfl⟩,⟨rfl,rfl⟩,⟨rfl,rfl⟩,trivial⟩)
 . rw[if_neg (by rw[haw];simp)]at hr;exact rN z q hf hv hq w hwv proof hpl r hr _ (an.keep ⟨⟨rfl,rfl⟩,⟨rfl,rfl⟩,⟨rfl,rfl⟩,⟨rfl,rfl⟩,⟨rfl,rfl⟩,trivial⟩ ⟨⟨rfl,rfl⟩,⟨rfl,rfl⟩,⟨rfl,rfl⟩,⟨rfl,rfl⟩,trivial⟩)
set_option maxHeartbeats 1000000 in
theorem rM(z : aP)(q : aW)(hf : eu z = true)(hv : bD z = true)(hq : bB q = true)(hu : aL q.name z.apex = true)(r : Ans × Int)(hr : (if cP z q.name = true then ((⟨5, bJ (bl [] z ⟨z.apex, 4⟩) z q.name, []⟩ : Ans), (0 : Int))
      else if (!((cy ([42]::bc (cS z q.name))).2==0))=true then(⟨6,bJ (bl [] z ⟨z.apex,4⟩) z q.name,[]⟩,0)
      else let w:=(cy ([42]::bc (cS z q.name))).1
      if decide (((bl [] z ⟨w,q.type⟩).length:Int)>0)=true then(⟨2,bJ (bl [] z ⟨w,q.type⟩) z q.name,[]⟩,0)
      else if (decide (((bl [] z ⟨w,3⟩).length:Int)>0)&&(q.type != 8))=true then(⟨3,bJ (bl [] z ⟨w,3⟩) z q.name,[]⟩,0)
      else if cP z w=true then(⟨5,bJ (bJ (bl [] z ⟨z.apex,4⟩) z q.name) z w,[]⟩,0)
      else(⟨6,bJ (bJ (bl [] z ⟨z.apex,4⟩) z q.name) z w,[]⟩,0))=r) (st:St) (hw:an cxR st (stR z q)) :
 vc cxR Tryz.f84.ntmps fzR (n9 12 ((Tryz.f84.body).getD .skip)) (fnQ cxR Tryz.f84.results.toList (.tuple [.agg ((dv r.1).map .d), .d (.int .i64 r.2)]) []) st:=by
 obtain⟨f1,f2⟩:=dx hf;have hz5:z.sets.length<=100000:=by omega
 have addK:∀(l:List Signed) (fl:Bool) (n:Bs) (t:Int),l.length<=100000->FnR cxR 151 true 79 5 (l.map au) fl [.agg (bo z), .str n, .int .i64 t] ((bl l z ⟨n,t⟩).map au):=fun l fl n t hl=>gV (cx:=cx) (cx' :=cxR) rfl rfl (mg l fl z n t hl hz5)
 have lenE:∀n t,(((bl [] z ⟨n,t⟩).map au).length:Int)=((bl [] z ⟨n,t⟩).length:Int):=fun n t=>by rw[ak]
 have len1:∀n t,(bl [] z ⟨n,t⟩).length<=100:=fun n t=>by have:=iG [] z ⟨n,t⟩;simp at this;omega
 have ho:=bx hv;have hqn:aj q.name=true:=by unfold bB at hq;simp only[aN]at hq;exact hq.1.1
 have covK:∀(l:List Signed) (fl:Bool) (n:Bs),l.length<=100000->aj n=true->FnR cxR 152 true 79 5 (l.map au) fl [.agg (bo z), .str n] ((bJ l z n).map au):=fun l fl n hl hn=>gV (cx:=cx) (cx' :=cxR) rfl rfl (nf l fl z n hl hz5 ho.name hn)
 have hval:=qs.1 hv;have hex:cP z z.apex=true:=qM hval.start;have hcl:aj (cS z q.name)=true:=rI hqn
 conv=>whnf
 refine⟨stR z q,hw,?_⟩
 conv=>whnf
 (refine⟨(by kernel_rfl:iy _=true),?_⟩;conv=>whnf)
 refine⟨_,addK [] false z.apex 4 (by simp),?_⟩
 conv=>whnf
 (repeat (refine⟨by kernel_rfl,?_⟩));conv=>whnf
 refine⟨_,covK (bl [] z ⟨z.apex,4⟩) _ q.name (by have:=len1 z.apex 4;omega) hqn,?_⟩
 conv=>whnf
 (repeat (refine⟨by kernel_rfl,?_⟩));conv=>whnf
 refine⟨Nd z q (bJ (bl [] z ⟨z.apex,4⟩) z q.name),an.keep ⟨⟨rfl,rfl⟩,⟨rfl,rfl⟩,⟨rfl,rfl⟩,⟨rfl,rfl⟩,trivial⟩ ⟨⟨rfl,rfl⟩,⟨rfl,rfl⟩,⟨rfl,rfl⟩,⟨rfl,rfl⟩,trivial⟩,?_⟩
 conv=>whnf
 (refine⟨_,_,qK z q.name hz5 ho.name hqn,?_⟩;conv=>whnf)
 refine ae (fun he=>?_) (fun he=>?_) <;> (rw[he];conv=>whnf)
 . rw[if_pos he]at hr;subst hr;exact af rfl rfl
 rw[if_neg (by rw[he];simp)]at hr;refine⟨Nd z q (bJ (bl [] z ⟨z.apex,4⟩) z q.name),an.keep ⟨⟨rfl,rfl⟩,⟨rfl,rfl⟩,⟨rfl,rfl⟩,⟨rfl,rfl⟩,trivial⟩ ⟨⟨rfl,rfl⟩,⟨rfl,rfl⟩,⟨rfl,rfl⟩,⟨rfl,rfl⟩,trivial⟩,?_⟩
 conv=>whnf
 (refine⟨_,_,ET z q.name hz5 ho.name hqn hu hex,?_⟩;conv=>whnf)
 (refine⟨_,_,DF (cS z q.name) hcl,?_⟩;conv=>whnf)
 refine ae (fun hj=>?_) (fun hj=>?_) <;> (rw[hj];conv=>whnf)
 . rw[if_pos hj]at hr;subst hr;exact af rfl rfl
 rw[if_neg (by rw[hj];simp)]at hr;have hwv:aj (cy ([42]::bc (cS z q.name))).1=true:=by
  have hj0:(cy ([42]::bc (cS z q.name))).2=0:=by simpa using hj
  unfold cy at hj0 ⊢;split
  . rename_i h;exact(x6 h).1
  . rename_i h;rw[if_neg h]at hj0;simp at hj0
 have hcl2:=EX (bl [] z ⟨z.apex,4⟩) z q.name;have hl4:=len1 z.apex 4;exact zT z q hf hv hq _ hwv _ (by omega) r hr _ (an.keep ⟨⟨rfl,rfl⟩,⟨rfl,rfl⟩,⟨rfl,rfl⟩,⟨rfl,rfl⟩,⟨rfl,rfl⟩,trivial⟩ ⟨⟨rfl,rfl⟩,⟨rfl,rfl⟩,⟨rfl,rfl⟩,⟨rfl,rfl⟩,trivial⟩)
theorem BY(z:aP)(q:aW)(hf:eu z=true)(hv:bD z=true)(hq:bB q=true)(hu:aL q.name z.apex=true)(hno:(!(bq z q.name==[])&&(!(bq z q.name==q.name)|| !fk q))=false)(r:Ans×Int)(hr:kV z q=r)(st:St)(hw:an cxR st (stR z q)) :
 vc cxR Tryz.f84.ntmps fzR (n9 8 ((Tryz.f84.body).getD .skip)) (fnQ cxR Tryz.f84.results.toList (.tuple [.agg ((dv r.1).map .d), .d (.int .i64 r.2)]) []) st:=by
 obtain⟨f1,f2⟩:=dx hf;have hz5:z.sets.length<=100000:=by omega
 have addK:∀(l:List Signed) (fl:Bool) (n:Bs) (t:Int),l.length<=100000->FnR cxR 151 true 79 5 (l.map au) fl [.agg (bo z), .str n, .int .i64 t] ((bl l z ⟨n,t⟩).map au):=fun l fl n t hl=>gV (cx:=cx) (cx' :=cxR) rfl rfl (mg l fl z n t hl hz5)
 have lenE:∀n t,(((bl [] z ⟨n,t⟩).map au).length:Int)=((bl [] z ⟨n,t⟩).length:Int):=fun n t=>by rw[ak]
 have len1:∀n t,(bl [] z ⟨n,t⟩).length<=100:=fun n t=>by have:=iG [] z ⟨n,t⟩;simp at this;omega
 have ho:=bx hv;have hqn:aj q.name=true:=by unfold bB at hq;simp only[aN]at hq;exact hq.1.1
 have covK:∀(l:List Signed) (fl:Bool) (n:Bs),l.length<=100000->aj n=true->FnR cxR 152 true 79 5 (l.map au) fl [.agg (bo z), .str n] ((bJ l z n).map au):=fun l fl n hl hn=>gV (cx:=cx) (cx' :=cxR) rfl rfl (nf l fl z n hl hz5 ho.name hn)
 have hvq:(!bD z|| !bB q)=false:=by rw[hv,hq];rfl
 unfold kV at hr;rw[if_neg (by simp[hvq]),if_neg (by simp[hu]),if_neg (by rw[hno];simp)]at hr
 conv=>whnf
 refine⟨stR z q,hw,?_⟩
 conv=>whnf
 refine⟨_,addK [] false q.name q.type (by simp),?_⟩
 conv=>whnf
 rw[lenE];refine ae (fun hd=>?_) (fun hd=>?_) <;> (rw[hd];conv=>whnf)
 . rw[if_pos hd]at hr;subst hr;exact af rfl rfl
 rw[if_neg (by rw[hd];simp)]at hr;refine⟨stR z q,an.keep ⟨⟨rfl,rfl⟩,⟨rfl,rfl⟩,⟨rfl,rfl⟩,trivial⟩ ⟨⟨rfl,rfl⟩,⟨rfl,rfl⟩,⟨rfl,rfl⟩,trivial⟩,?_⟩
 conv=>whnf
 refine⟨_,addK [] false q.name 3 (by simp),?_⟩
 conv=>whnf
 rw[lenE];refine ae (fun ha=>?_) (fun ha=>?_) <;> (rw[ha];conv=>whnf)
 . refine ae (fun h8=>?_) (fun h8=>?_) <;> (rw[h8];conv=>whnf)
   . rw[if_pos (by rw[ha,h8];rfl)]at hr;subst hr;exact af rfl rfl
   . rw[if_neg (by rw[ha,h8];simp)]at hr;exact rM z q hf hv hq hu r hr _ (an.keep ⟨⟨rfl,rfl⟩,⟨rfl,rfl⟩,⟨rfl,rfl⟩,trivial⟩ ⟨⟨rfl,rfl⟩,⟨rfl,rfl⟩,⟨rfl,rfl⟩,trivial⟩)
 . rw[if_neg (by rw[ha];simp)]at hr;exact rM z q hf hv hq hu r hr _ (an.keep ⟨⟨rfl,rfl⟩,⟨rfl,rfl⟩,⟨rfl,rfl⟩,trivial⟩ ⟨⟨rfl,rfl⟩,⟨rfl,rfl⟩,⟨rfl,rfl⟩,trivial⟩)
theorem FU(z:aP)(q:aW)(hf:eu z=true):NQ.Fn cx 84 [.agg (bo z), .agg (cm q)] (.tuple [.agg ((dv (kV z q).1).map .d), .d (.int .i64 (kV z q).2)]) []:=by
 show NQ.Fn cxR _ _ _ _
 refine cV fzR tyR BG Tryz.func84 (by kernel_rfl) rfl (ag rfl) ?_
 conv=>whnf
 obtain⟨f1,f2⟩:=dx hf;have hz5:z.sets.length<=100000:=by omega
 have addK:∀(l:List Signed) (fl:Bool) (n:Bs) (t:Int),l.length<=100000->FnR cxR 151 true 79 5 (l.map au) fl [.agg (bo z), .str n, .int .i64 t] ((bl l z ⟨n,t⟩).map au):=fun l fl n t hl=>gV (cx:=cx) (cx' :=cxR) rfl rfl (mg l fl z n t hl hz5)
 have len1:∀n t,(bl [] z ⟨n,t⟩).length<=1:=fun n t=>iG [] z ⟨n,t⟩
 have lenE:∀n t,(((bl [] z ⟨n,t⟩).map au).length:Int)=((bl [] z ⟨n,t⟩).length:Int):=fun n t=>by rw[ak]
 (refine⟨_,_,zk z hz5,?_⟩;conv=>whnf)
 (refine⟨_,_,Il q,?_⟩;conv=>whnf)
 have bad:(!bD z|| !bB q)=true->kV z q=(gr,1):=fun h=>by unfold kV;rw[if_pos h]
 refine ae (fun hv=>?_) (fun hv=>?_) <;> (rw[hv];conv=>whnf)
 . exact af rfl (by rw[bad (by rw[hv];rfl)];rfl)
 refine ae (fun hq=>?_) (fun hq=>?_) <;> (rw[hq];conv=>whnf)
 . exact af rfl (by rw[bad (by rw[hq];simp)];rfl)
 have hvq:(!bD z|| !bB q)=false:=by rw[hv,hq];rfl
 have hv:bD z=true:=by simpa using hv
 have hq:bB q=true:=by simpa using hq
 have ho:=bx hv;have hqn:aj q.name=true:=by unfold bB at hq;simp only[aN]at hq;exact hq.1.1
 have covK:∀(l:List Signed) (fl:Bool) (n:Bs),l.length<=100000->aj n=true->FnR cxR 152 true 79 5 (l.map au) fl [.agg (bo z), .str n] ((bJ l z n).map au):=fun l fl n hl hn=>gV (cx:=cx) (cx' :=cxR) rfl rfl (nf l fl z n hl hz5 ho.name hn)
 (refine⟨_,_,lD q.name z.apex (bP hqn) (bP ho.apex),?_⟩;conv=>whnf)
 refine ae (fun hu=>?_) (fun hu=>?_) <;> (rw[hu];conv=>whnf)
 . exact af rfl (by unfold kV;rw[if_neg (by simp[hvq]),if_pos hu];rfl)
 have hun:(!aL q.name z.apex)=false:=hu;have hu:aL q.name z.apex=true:=by simpa using hu
 (refine⟨_,_,Jv z q.name hz5 ho.name hqn,?_⟩;conv=>whnf)
 have base : kV z q = if (!(bq z q.name == []) && (!(bq z q.name == q.name) || !fk q)) = true then (ko z (bq z q.name), 0)
     else if decide (((bl [] z q).length:Int)>0)=true then(⟨1,bl [] z q,[]⟩,0)
     else if (decide (((bl [] z ⟨q.name,3⟩).length:Int)>0)&&(q.type != 8))=true then(⟨3,bl [] z ⟨q.name,3⟩,[]⟩,0)
     else if cP z q.name=true then(⟨5,bJ (bl [] z ⟨z.apex,4⟩) z q.name,[]⟩,0)
     else if (!((cy ([42]::bc (cS z q.name))).2==0))=true then(⟨6,bJ (bl [] z ⟨z.apex,4⟩) z q.name,[]⟩,0)
     else let w:=(cy ([42]::bc (cS z q.name))).1
     if decide (((bl [] z ⟨w,q.type⟩).length:Int)>0)=true then(⟨2,bJ (bl [] z ⟨w,q.type⟩) z q.name,[]⟩,0)
     else if (decide (((bl [] z ⟨w,3⟩).length:Int)>0)&&(q.type != 8))=true then(⟨3,bJ (bl [] z ⟨w,3⟩) z q.name,[]⟩,0)
     else if cP z w=true then(⟨5,bJ (bJ (bl [] z ⟨z.apex,4⟩) z q.name) z w,[]⟩,0)
     else(⟨6,bJ (bJ (bl [] z ⟨z.apex,4⟩) z q.name) z w,[]⟩,0):=by unfold kV;rw[if_neg (by simp[hvq]),if_neg (by simp[hun])]
 have ref:bq z q.name ≠ []->NQ.Fn cxR 150 [.agg (bo z), .str (bq z q.name)] (.agg ((dv (ko z (bq z q.name))).map .d)) []:=fun hne=>by
  obtain⟨c1,c2⟩:=sd ho hne;exact Im z (bq z q.name) (by omega) c1 c2 (Ep ho hf)
 have done:∀(b:Bool),(!(bq z q.name==[])&&(!(bq z q.name==q.name)|| !fk q))=b->b=true->kV z q=(ko z (bq z q.name),0):=fun b h1 h2=>by rw[base,if_pos (by rw[h1,h2])]
 have hval:=qs.1 hv;have hex:cP z z.apex=true:=qM hval.start;have hcl:aj (cS z q.name)=true:=rI hqn
 repeat' (first
  | (refine ae (fun h=>?_) (fun h=>?_) <;> (rw[h];conv=>whnf))
  | (refine ⟨_, _, ref (GU (by assumption)), ?_⟩
     conv=>whnf
     have e0:(!(bq z q.name==[]))=true:=by assumption
     have e1:(!(bq z q.name==[])&&(!(bq z q.name==q.name)|| !fk q))=true:=by(unfold fk;simp only[*, if_true,if_false,av,aF,aE,aG,aK,aH,ax,aA,aB,aC,aD,az])
     exact af rfl (by rw[done _ e1 rfl];rfl))
  | fail)
 all_goals
  have hno:(!(bq z q.name==[])&&(!(bq z q.name==q.name)|| !fk q))=false:=by
   unfold fk
   first
    | (have e0 : (!(bq z q.name == [])) = true := by assumption
       simp only[*, if_true,if_false,av,aF,aE,aG,aK,aH,ax,aA,aB,aC,aD,az];done)
    | (have e0 : (!(bq z q.name == [])) = false := by assumption
       simp only[*, if_true,if_false,av,aF,aE,aG,aK,aH,ax,aA,aB,aC,aD,az];done)
  exact BY z q hf hv hq hu hno _ rfl _ (an.keep ⟨⟨rfl,rfl⟩,⟨rfl,rfl⟩,⟨rfl,rfl⟩,trivial⟩ ⟨⟨rfl,rfl⟩,⟨rfl,rfl⟩,⟨rfl,rfl⟩,trivial⟩)
end Go.Proofs.YtcecidfnchcagaaGreatDoor
namespace NP
open NQ Go
def fX(sets:List Signed)(l:List Signed)(p:Int):List Signed :=
 if decide (p<0)=true then l else match sets[p.toNat]? with | some s=>if b9 l (qOf s)=true then l else l++[s] | none=>l
def Gn(sets l:List Signed)(seen:List Int):Prop:= ∀(k:Nat) s,sets[k]? =some s->b9 l (qOf s)=seen.contains (k:Int)
theorem ze{sets:List Signed}(hr:RP sets){i j:Nat}{a b:Signed}(ha:sets[i]? =some a)(hb:sets[j]? =some b)(h:a.place=b.place):i=j:=by
 have hp:=List.pairwise_iff_getElem.1 hr;obtain⟨hi,e1⟩:=aq.1 ha;obtain⟨hj,e2⟩:=aq.1 hb;rcases Nat.lt_trichotomy i j with hlt | heq | hlt
 . exact absurd h (by have:=hp i j hi hj hlt;rw[e1,e2]at this;exact ng this)
 . exact heq
 . exact absurd h.symm (by have:=hp j i hj hi hlt;rw[e1,e2]at this;exact ng this)
theorem k7{sets:List Signed}(hr:RP sets):∀(ps:List Int) (l:List Signed) (seen:List Int),(∀p∈ps,p<sets.length)->Gn sets l seen->ps.foldl (fX sets) l=l++cg sets seen ps
 | [],l,seen,_,_=>by simp[cg]
 | p::ps,l,seen,hp,hs=>by
  have hps:∀q∈ps,q<sets.length:=fun q hq=>hp q (aX _ hq)
  rw[List.foldl_cons,cg];by_cases hneg:p<0
  . have e:fX sets l p=l:=by unfold fX;rw[if_pos (by simpa using hneg)]
    rw[e,if_pos (by simp[hneg])];refine k7 hr ps l _ hps fun k s hk=>?_
    rw[hs k s hk,Bool.eq_iff_iff,dm,dm,List.mem_append];refine⟨.inl,fun h=>h.elim id fun h=>?_⟩;simp at h;omega
  . have hplt:=hp p (List.mem_cons_self ..);obtain⟨s,hsp⟩:∃s,sets[p.toNat]? =some s:=⟨_,ah (by omega)⟩
    have hpn:((p.toNat:Nat):Int)=p:=by omega
    have hin:=hs p.toNat s hsp;rw[hpn]at hin;cases hc:seen.contains p with
    | true =>
     rw[hc]at hin;have e:fX sets l p=l:=by unfold fX;rw[if_neg (by simpa using hneg),hsp];simp only[hin,if_true]
     rw[e,if_pos (by simp[hc])];refine k7 hr ps l _ hps fun k t hk=>?_
     rw[hs k t hk,Bool.eq_iff_iff,dm,dm,List.mem_append];refine⟨.inl,fun h=>h.elim id fun h=>?_⟩;simp at h;rw[h];exact dm.1 hc
    | false =>
     rw[hc]at hin;have e:fX sets l p=l++[s]:=by unfold fX;rw[if_neg (by simpa using hneg),hsp];simp only[hin,if_false,av]
     rw[e,if_neg (by simp[hneg,hc]),hsp];rw[k7 hr ps (l++[s]) (seen++[p]) hps fun k t hk=>?_]
     . simp
     . have:b9 (l++[s]) (qOf t)=(b9 l (qOf t)||is (qOf t) s):=by unfold b9;rw[List.any_append];simp
       rw[this,hs k t hk,Bool.eq_iff_iff,Bool.or_eq_true,dm,dm,List.mem_append];refine or_congr Iff.rfl ?_;rw[kM,List.mem_singleton];constructor
       . intro h;have:=ze hr hsp hk h;omega
       . intro h;have:k=p.toNat:=by omega
         subst this;rw[hsp]at hk;cases hk;rfl
theorem rp(sets:List Signed):Gn sets [] []:=fun k s _=>rfl
theorem fy{z:aP}(l:List Signed)(q:aW):bl l z q=fX z.sets l (atI z.sets q):=by
 unfold bl fX;by_cases h:decide (atI z.sets q<0)=true
 . rw[if_pos h,if_pos h]
 . rw[if_neg h,if_neg h];have hh:b9 z.sets q=true:=by
    have:=jl z.sets q;cases hc:b9 z.sets q with
    | true=>rfl
    | false=>rw[hc]at this;exact absurd this h
   obtain⟨k,s,h1,h2,h3⟩:=nN hh;have hk:(atI z.sets q).toNat=k:=by rw[h1];rfl
   rw[hk,h2];simp only;have:b9 l q=b9 l (qOf s):=by
    unfold b9
    congr 1
    funext x
    rw[Bool.eq_iff_iff,kM,kM];have:(qOf s).place=q.place:=h3;rw[this]
   rw[this]
theorem wB(l:List Signed)(n:Bs):∀k:Nat,k<=lS l n->(∀i s,i<k->l[i]? =some s->aQ s.set.name n<=0)->(kD l n k=none/\jD l k= -1)\/ ∃i s,l[i]? =some s/\kD l n k=some s/\jD l k=((i:Nat):Int)/\s.set.type=8
 | 0,_,_=> .inl ⟨rfl,rfl⟩
 | k+1,hk,h=>by
  have hlt:k<l.length:=by have:=my l n;omega
  obtain⟨s,hs⟩:∃s,l[k]? =some s:=⟨_,ah hlt⟩
  have hc:=h k s (by omega) hs;simp only[kD,jD,hs];by_cases ht:s.set.type=8
  . refine .inr ⟨k,s,hs,?_,?_,ht⟩
    . rw[if_pos (by unfold lJ;simp[ht,hc])]
    . simp[ht]
  . have e1:lJ n s=false:=by unfold lJ;simp[ht]
    rw[if_neg (by simp[e1])];have e2:(s.set.type==8)=false:=by simpa using ht
    have:=wB l n k (by omega) fun i s hi hs=>h i s (by omega) hs
    simpa [e2,ht] using this
theorem yJ(l:List Signed)(n:Bs):∀k j:Nat,j<=k->(∀i s,j<=i->i<k->l[i]? =some s->0<aQ s.set.name n)->kD l n k=kD l n j
 | 0, j, hj, _ => by obtain rfl : j = 0 := by omega
                     rfl
 | k+1,j,hj,h=>by
  by_cases e:j=k+1
  . rw[e]
  . rw[kD];have:=yJ l n k j (by omega) fun i s h1 h2 hs=>h i s h1 (by omega) hs
    cases hs:l[k]? with
    | none=>exact this
    | some s =>
     have hc:=h k s (by omega) (by omega) hs;have e1:lJ n s=false:=by unfold lJ;rw[decide_eq_false (by omega)];simp
     simp only;rw[if_neg (by simp[e1])];exact this
theorem GQ{z:aP}(hr:dw z.sets)(n:Bs):(kD z.sets n z.sets.length=none/\eG z.sets n= -1)\/ ∃i s,z.sets[i]? =some s/\kD z.sets n z.sets.length=some s/\eG z.sets n=((i:Nat):Int)/\s.set.type=8:=by
 have hp:=lz hr;rw[yJ z.sets n z.sets.length (lS z.sets n) (my _ _) fun i s h1 _ hs=>(qZ hp hs).1 h1];exact wB z.sets n _ (Nat.le_refl _) fun i s hi hs=>by
  have:¬(lS z.sets n<=i):=by omega
  rw[qZ hp hs]at this;omega
theorem kK{z:aP}(hr:dw z.sets)(l:List Signed)(n:Bs):bJ l z n=fX z.sets l (eG z.sets n):=by
 unfold bJ;rcases GQ hr n with ⟨h1,h2⟩ | ⟨i,s,hs,h1,h2,ht⟩
 . rw[h1,h2];rfl
 . rw[h1,h2];simp only;rw[fy];have hmem:=ao hs;have hq:(⟨s.set.name,8⟩:aW).place=s.place:=by unfold aW.place Signed.place;simp[ht]
   have hh:b9 z.sets ⟨s.set.name,8⟩=true:=mu.2 ⟨s,hmem,hq.symm⟩;obtain⟨k,t,h3,h4,h5⟩:=nN hh;have:=ze hr.pw h4 hs (h5.trans hq);subst this;rw[h3]
theorem LJ{a b:Bs}(h:aQ a b<=0):0<=aQ b a:=by have:=aZ.anti a b;omega
theorem Jj{a b:Bs}(h:0<=aQ a b):aQ b a<=0:=by have:=aZ.anti a b;omega
theorem tz{s n:Bs}(hs:aj s=true)(hn:aj n=true):(bI s n).1=aL s n:=by unfold bI;rw[if_pos ⟨hs,hn⟩]
theorem lK{z:aP}(ho:Ordered z){n:Bs}(hn:aj n=true):exB z.sets n=cP z n:=by
 have hp:=lz ho.rising;have ge:∀s∈z.sets,aL s.set.name n=true-> ∃i,z.sets[i]? =some s/\nK z.sets n<=i:=fun s hs hu=>by
  obtain⟨i,hi⟩:=bV hs;exact⟨i,hi,(ra hp hi).2 (LJ (mB hu))⟩
 unfold exB cP;cases hg:z.sets[nK z.sets n]? with
 | none =>
  symm
  rw[List.any_eq_false];intro s hs hu;obtain⟨i,hi,hle⟩:=ge s hs hu;have h1:=(aq.1 hi).1;have h2:=List.getElem?_eq_none_iff.1 hg;omega
 | some t =>
  have htm:=ao hg;simp only;rw[tz (ho.name t htm) hn];cases hu:aL t.set.name n with
  | true=>symm;exact List.any_eq_true.2 ⟨t,htm,hu⟩
  | false =>
   symm
   rw[List.any_eq_false];intro s hs hus;obtain⟨i,hi,hle⟩:=ge s hs hus;have hnt:aQ n t.set.name<=0:=Jj ((ra hp hg).1 (Nat.le_refl _));have hts:aQ t.set.name s.set.name<=0:=by
    rcases Nat.lt_or_eq_of_le hle with hlt | heq
    . obtain⟨h1,e1⟩:=aq.1 hg;obtain⟨h2,e2⟩:=aq.1 hi;have:=List.pairwise_iff_getElem.1 hp _ _ h1 h2 hlt
      rwa [e1,e2]at this
    . rw[<- heq,hg]at hi;cases hi;have:=(aZ.zero t.set.name t.set.name).2 rfl;omega
   have:=mC (fp n) hus hnt hts;rw[hu]at this;cases this
theorem AP{z:aP}(ho:Ordered z)(hex:cP z z.apex=true):∀(f:Nat) (n:Bs),aj n=true->aL n z.apex=true->ml z.apex z.sets f n=vq z f n
 | 0,n,_,_=>rfl
 | f+1,n,hn,hu=>by
  rw[ml,vq];by_cases hne:n=z.apex
  . subst hne;rw[if_pos rfl,if_pos hex]
  . rw[if_neg hne,lK ho hn];cases he:cP z n with
    | true=>rw[if_pos rfl,if_pos rfl]
    | false =>
     rw[if_neg (by simp),if_neg (by simp)];obtain⟨_,k2,_⟩:=jW hn hu hne;exact AP ho hex f (cn n) (eS hn) k2
theorem wK{z:aP}{v:View}(hv:v.sets=z.sets)(hc:aj v.cut=true):∀(h:List Datum) (l:List Signed),(∀d∈h,aj d.text=true)->iR z v.cut l h=(dO v h).foldl (fX z.sets) l
 | [],l,_=>by simp[iR,dO]
 | d::h,l,hd=>by
  have e1:iR z v.cut l (d::h)=iR z v.cut (if aL d.text v.cut=true then bl l z ⟨d.text,1⟩else l) h:=rfl;have e2:dO v (d::h)=(if (bI d.text v.cut).1=true then[atI v.sets ⟨d.text,1⟩]else[])++dO v h:=by unfold dO;rw[List.flatMap_cons]
  rw[e1,e2,List.foldl_append,tz (hd d (List.mem_cons_self ..)) hc,wK hv hc h _ fun x hx=>hd x (aX _ hx)]
  congr 1
  split
  . rw[fy,hv];rfl
  . rfl
theorem LX{v:View}{l:List Datum}{q:Int}(hq:q∈dO v l):q<v.sets.length:=by
 unfold dO at hq;obtain⟨x,_,hx⟩:=List.mem_flatMap.1 hq;split at hx
 . simp at hx;rw[hx];exact cU _ _
 . cases hx
theorem sX{v:View}{q:Int}(hq:q∈dV v):q<v.sets.length:=by
 unfold dV at hq;rcases List.mem_append.1 hq with hq | hq
 . simp at hq;rcases hq with rfl | rfl
   . exact cU _ _
   . unfold hX;split <;> exact cU _ _
 . exact LX hq
theorem Kx{z:aP}{v:View}(ho:Ordered z)(hf:eu z=true)(hs:v.sets=z.sets)(hc:aj v.cut=true)(hcut:b9 z.sets ⟨v.cut,2⟩=true):(⟨4,cg v.sets [] (dV v),v.cut⟩:Ans)=ko z v.cut:=by
 obtain⟨s0,hs0,hp0,e0⟩:=vj hcut;have hr0:rl0 z v.cut=[s0]:=e0;have e2:rl2 z v.cut=fX z.sets (fX z.sets [] (dL v)) (hX v):=by
  have e3:fX z.sets [] (dL v)=[s0]:=by unfold dL;rw[hs, <- fy];exact e0
  rw[e3];unfold rl2;rw[hr0];have hr1:rl1 z v.cut=fX z.sets [s0] (atI z.sets ⟨v.cut,6⟩):=by unfold rl1;rw[hr0,fy]
  by_cases hneg:atI z.sets ⟨v.cut,6⟩<0
  . have:rl1 z v.cut=[s0]:=by rw[hr1];unfold fX;rw[if_pos (by simpa using hneg)]
    rw[this,if_pos (by simp),fy];unfold hX;rw[hs,if_pos (by simpa using hneg)]
  . obtain⟨k,s,h1,h2,h3⟩:=nN (l:=z.sets) (q:=⟨v.cut,6⟩) (by
     have:=jl z.sets ⟨v.cut,6⟩;cases hc:b9 z.sets ⟨v.cut,6⟩with
     | true=>rfl
     | false=>rw[hc]at this;simp at this;omega)
    have hno:b9 [s0] (qOf s)=false:=by
     unfold b9;simp only[List.any_cons,List.any_nil,aA];rw[<- Bool.not_eq_true,kM];intro e;have e' :s0.place=s.place:=e;rw[hp0,h3]at e';have:=congrArg Prod.snd e';simp[aW.place]at this
    have:rl1 z v.cut=[s0]++[s]:=by rw[hr1,h1];unfold fX;rw[if_neg (by simp)];simp only[show((k:Nat):Int).toNat=k by simp,h2,hno];rfl
    rw[this,if_neg (by simp), <- this,hr1];unfold hX;rw[hs,if_neg (by simpa using hneg)]
 have hho:pZ (rl0 z v.cut)=iV v:=by
  have h1:dL v=atI z.sets ⟨v.cut,2⟩:=by unfold dL;rw[hs]
  obtain⟨k,s,a1,a2,a3⟩:=nN hcut;have:s=s0:=RP.uniq ho.rising.pw (ao a2) hs0 (a3.trans hp0.symm);subst this;unfold pZ iV;rw[hr0,h1,a1,hs];simp[a2]
 have hdv:∀d∈iV v,aj d.text=true:=by
  rw[<- hho];unfold pZ;rw[hr0];exact((Ep ho hf) s0 hs0).2 (congrArg Prod.snd hp0)
 unfold ko
 congr 1
 rw[hho,e2,wK hs hc _ _ hdv,hs];have:=k7 ho.rising.pw (dV v) [] [] (fun p hp=>by rw[<- hs];exact sX hp) (rp _);rw[List.nil_append]at this;rw[<- this];unfold dV;rw[List.foldl_append];rfl
theorem Lm{z:aP}(ho:Ordered z)(p:Int)(hp:p<z.sets.length):cg z.sets [] [p]=fX z.sets [] p:=by
 have:=k7 ho.rising.pw [p] [] [] (fun q hq=>by simp at hq;rw[hq];exact hp) (rp _);rw[List.nil_append]at this;rw[<- this];rfl
theorem Af{z:aP}(ho:Ordered z)(p q:Int)(hp:p<z.sets.length)(hq:q<z.sets.length):cg z.sets [] [p,q]=fX z.sets (fX z.sets [] p) q:=by
 have:=k7 ho.rising.pw [p,q] [] [] (fun r hr=>by simp at hr;rcases hr with rfl | rfl <;> assumption) (rp _);rw[List.nil_append]at this;rw[<- this];rfl
theorem Ln{z:aP}(ho:Ordered z)(p q r:Int)(hp:p<z.sets.length)(hq:q<z.sets.length)(hr:r<z.sets.length):cg z.sets [] [p,q,r]=fX z.sets (fX z.sets (fX z.sets [] p) q) r:=by
 have:=k7 ho.rising.pw [p,q,r] [] [] (fun x hx=>by simp at hx;rcases hx with rfl | rfl | rfl <;> assumption) (rp _);rw[List.nil_append]at this;rw[<- this];rfl
theorem tM{z:aP}{q:aW}:decide (((bl [] z q).length:Int)>0)=decide (atI z.sets q>=0):=by
 have h:=jl z.sets q;cases hh:b9 z.sets q with
 | true =>
  obtain⟨s,_,_,e⟩:=vj hh;rw[e];rw[hh]at h;have:¬atI z.sets q<0:=by simpa using h
  rw[decide_eq_true (by simp),decide_eq_true (by omega)]
 | false =>
  rw[Gq hh];rw[hh]at h;have:atI z.sets q<0:=by simpa using h
  rw[decide_eq_false (by simp),decide_eq_false (by omega)]
theorem GD{z:aP}(ho:Ordered z)(t:Int):atI z.sets ⟨[],t⟩<0:=by
 have h:=jl z.sets ⟨[],t⟩;cases hh:b9 z.sets ⟨[],t⟩with
 | true =>
  obtain⟨s,hs,hp⟩:=mu.1 hh;have hv:=ho.name s hs;have:s.set.name=[]:=congrArg Prod.fst hp;rw[this]at hv;exact absurd rfl (jY hv)
 | false=>rw[hh]at h;simpa using h
theorem Mq{z:aP}(hf:eu z=true)(q:aW):kV z q=bF z q:=by
 unfold kV;have hty:(decide (q.type<1)||decide (q.type>8))=true->bF z q=(gr,1):=fun h=>by unfold bF;rw[if_pos h]
 have hcu:∀c b e,(decide (q.type<1)||decide (q.type>8))=false->dS z q.name=(c,b,e)->bF z q=if (e==20)=true then(⟨7,[],[]⟩,0)else if (e != 0)=true then(gr,e)else(ff (jZ z q c b),0):=fun c b e h hc=>by
  unfold bF;rw[if_neg (by simp[h]),hc]
 cases hv:bD z with
 | false =>
  rw[if_pos (by simp)];have hc:dS z q.name=([],false,1):=by unfold dS;rw[hv];simp
  cases ht:(decide (q.type<1)||decide (q.type>8))with
  | true=>rw[hty ht]
  | false=>rw[hcu _ _ _ ht hc];rfl
 | true =>
 have ho:=bx hv;cases hqn:aj q.name with
 | false =>
  have hqb:bB q=false:=by unfold bB;rw[hqn];rfl
  rw[if_pos (by rw[hqb];rfl)];have hc:dS z q.name=([],false,1):=by unfold dS;rw[hqn];simp
  cases ht:(decide (q.type<1)||decide (q.type>8))with
  | true=>rw[hty ht]
  | false=>rw[hcu _ _ _ ht hc];rfl
 | true =>
 cases ht:(decide (q.type<1)||decide (q.type>8))with
 | true =>
  have hqb:bB q=false:=by
   unfold bB;rw[hqn];simp at ht ⊢;omega
  rw[if_pos (by rw[hqb];rfl),hty ht]
 | false =>
 have hqb:bB q=true:=by
  unfold bB;rw[hqn];simp at ht ⊢;omega
 rw[if_neg (by rw[hqb];simp)];cases hu:aL q.name z.apex with
 | false =>
  rw[if_pos (by simp)];have hc:dS z q.name=([],false,20):=by unfold dS;rw[hqn,hv,tz hqn ho.apex,hu];simp
  rw[hcu _ _ _ ht hc];rfl
 | true =>
 rw[if_neg (by simp)];have hc:=DT hv hqn hu;have hR:bF z q=(ff (jZ z q (bq z q.name) (!(bq z q.name==[]))),0):=by rw[hcu _ _ _ ht hc];rfl
 rw[hR];have hval:=qs.1 hv;have hex:cP z z.apex=true:=qM hval.start;generalize hcc:bq z q.name=c;have hcOk:c ≠ []->aj c=true/\b9 z.sets ⟨c,2⟩=true:=fun h=>hcc ▸ sd ho (hcc ▸ h)
 dsimp only;generalize hvv:jZ z q c (!(c==[]))=v;have hsets:v.sets=z.sets:=by rw[<- hvv];rfl
 have hvq:v.q=q:=by rw[<- hvv];rfl
 have hvc:v.cut=c:=by rw[<- hvv];rfl
 have hva:v.apex=z.apex:=by rw[<- hvv];rfl
 have hwild:v.cN=[]:=by rw[<- hvv];rfl
 have hrB:eC v=(!(c==[])&&(!(c==q.name)|| !fk q)):=by
  rw[<- hvv];unfold eC rX fk jZ;dsimp only;rw[Bool.beq_comm (a:=q.name) (b:=c)];cases (c==[]) <;> cases (c==q.name) <;> simp
 unfold ff;rw[hrB];cases hr:(!(c==[])&&(!(c==q.name)|| !fk q))with
 | true =>
  simp only[↓reduceIte];have hne:c ≠ []:=by intro e;rw[e]at hr;simp at hr
  obtain⟨h1,h2⟩:=hcOk hne;have:=Kx (v:=v) ho hf hsets (by rw[hvc];exact h1) (by rw[hvc];exact h2);unfold jh;rw[hrB,hr,if_pos rfl,this,hvc]
 | false =>
 simp only[av, ↓reduceIte];have hd:tP v=decide (((bl [] z q).length:Int)>0):=by unfold tP;rw[tM,hsets,hvq]
 rw[hd];cases hdd:decide (((bl [] z q).length:Int)>0)with
 | true =>
  simp only[↓reduceIte];unfold wC;rw[hsets,hvq,Lm ho _ (cU _ _),fy]
 | false =>
 simp only[av, ↓reduceIte];have ha:mX v=(decide (((bl [] z ⟨q.name,3⟩).length:Int)>0)&&(q.type != 8)):=by unfold mX;rw[tM,hsets,hvq]
 rw[ha];cases haa:(decide (((bl [] z ⟨q.name,3⟩).length:Int)>0)&&(q.type != 8))with
 | true =>
  simp only[↓reduceIte];unfold wh;rw[hsets,hvq,Lm ho _ (cU _ _),fy]
 | false =>
 simp only[av, ↓reduceIte];have hproof:cg z.sets [] [dy v,eG v.sets v.q.name]=bJ (bl [] z ⟨z.apex,4⟩) z q.name:=by
  rw[Af ho _ _ (by unfold dy;rw[hsets];exact cU _ _) (by rw[hsets];exact dz _ _),kK ho.rising,fy];unfold dy;rw[hsets,hvq,hva]
 rw[hsets,hvq,lK ho hqn];cases he:cP z q.name with
 | true =>
  simp only[↓reduceIte];unfold kj;rw[hsets,hvq,lK ho hqn,he,if_pos rfl];rw[hsets,hvq]at hproof;rw[<- hproof]
 | false =>
 simp only[av, ↓reduceIte];have hcl:nc v.apex v.sets v.q.name=cS z q.name:=by
  unfold nc cS;rw[hsets,hvq,hva];exact AP ho hex _ _ hqn hu
 have hnd:cd v={v with cN:=l0 (cS z q.name)}:=by
  unfold cd;rw[<- hcl,hsets,hvq,lK ho hqn,he,if_neg (by simp)]
 rw[hnd];generalize hst:l0 (cS z q.name)=w;have hu2:({v with cN:=w}:View).sets=z.sets:=hsets;cases hj:((cy ([42]::bc (cS z q.name))).2==0)with
 | false =>
  have hw:w=[]:=by rw[<- hst];exact v8 _ (by simpa using hj)
  rw[if_pos (by simp)];have h1:py {v with cN:=w}=false:=by
   unfold py;rw[hw];have:=GD ho v.q.type;rw[<- hsets]at this;exact decide_eq_false (by show ¬(atI v.sets ⟨[],v.q.type⟩>=0);omega)
  have h2:fu {v with cN:=w}=false:=by
   unfold fu;rw[hw];have:=GD ho 3;rw[<- hsets]at this;rw[decide_eq_false (show ¬(atI v.sets ⟨[],3⟩>=0) by omega)];rfl
  have h3:jw {v with cN:=w}=false:=by unfold jw;rw[hw];rfl
  rw[h1,h2,h3];simp only[av,if_false];have:jt {v with cN:=w}=⟨6,cg v.sets [] [dy v,eG v.sets v.q.name, -1],[]⟩:=by
   unfold jt;rw[if_pos hw];rfl
  rw[this,hsets];rw[hsets]at hproof;have hp3:cg z.sets [] [dy v,eG z.sets v.q.name, -1]=cg z.sets [] [dy v,eG z.sets v.q.name]:=by
   rw[Ln ho _ _ _ (by unfold dy;rw[hsets];exact cU _ _) (dz _ _) (by omega),Af ho _ _ (by unfold dy;rw[hsets];exact cU _ _) (dz _ _)];unfold fX;rw[if_pos (by decide)]
  rw[hp3,hproof]
 | true =>
  rw[if_neg (by simp)];have hw:(cy ([42]::bc (cS z q.name))).1=w:=hst;have hwv:aj w=true:=by
   rw[<- hst];unfold l0;have hj0:(cy ([42]::bc (cS z q.name))).2=0:=by simpa using hj
   unfold cy at hj0 ⊢;split
   . rename_i h;exact(x6 h).1
   . rename_i h;rw[if_neg h]at hj0;simp at hj0
  have hwne:=jY hwv;rw[hw]
  (try dsimp only)
  have h1:py {v with cN:=w}=decide (((bl [] z ⟨w,q.type⟩).length:Int)>0):=by
   unfold py;rw[tM];show decide (atI v.sets ⟨w,v.q.type⟩>=0)=_;rw[hsets,hvq]
  have h2:fu {v with cN:=w}=(decide (((bl [] z ⟨w,3⟩).length:Int)>0)&&(q.type != 8)):=by
   unfold fu;rw[tM];show(decide (atI v.sets ⟨w,3⟩>=0)&&(v.q.type != 8))=_;rw[hsets,hvq]
  have h3:jw {v with cN:=w}=cP z w:=by
   unfold jw;show(!(w==[])&&exB v.sets w)=_
   rw[hsets,lK ho hwv];have:(w==[])=false:=by simpa using hwne
   rw[this];rfl
  rw[h1,h2,h3];cases hdw:decide (((bl [] z ⟨w,q.type⟩).length:Int)>0)with
  | true =>
   simp only[↓reduceIte];show((⟨2,bJ (bl [] z ⟨w,q.type⟩) z q.name,[]⟩:Ans),(0:Int))=(⟨2,cg v.sets [] [atI v.sets ⟨w,v.q.type⟩,eG v.sets v.q.name],[]⟩,0)
   rw[hsets,hvq,Af ho _ _ (cU _ _) (dz _ _),kK ho.rising,fy]
  | false =>
  simp only[av, ↓reduceIte];cases haw:(decide (((bl [] z ⟨w,3⟩).length:Int)>0)&&(q.type != 8))with
  | true =>
   simp only[↓reduceIte];show((⟨3,bJ (bl [] z ⟨w,3⟩) z q.name,[]⟩:Ans),(0:Int))=(⟨3,cg v.sets [] [atI v.sets ⟨w,3⟩,eG v.sets v.q.name],[]⟩,0)
   rw[hsets,hvq,Af ho _ _ (cU _ _) (dz _ _),kK ho.rising,fy]
  | false =>
  simp only[av, ↓reduceIte];have hp3:bJ (bJ (bl [] z ⟨z.apex,4⟩) z q.name) z w=cg v.sets [] [dy v,eG v.sets v.q.name,eG v.sets w]:=by
   rw[hsets,Ln ho _ _ _ (by unfold dy;rw[hsets];exact cU _ _) (dz _ _) (dz _ _),kK ho.rising,kK ho.rising,fy];unfold dy;rw[hsets,hvq,hva]
  cases hew:cP z w with
  | true =>
   simp only[av, ↓reduceIte];rw[hp3];unfold kA;rw[h3,hew,if_pos rfl];rfl
  | false =>
   simp only[av, ↓reduceIte];rw[hp3];show _=(jt {v with cN:=w},(0:Int))
   unfold jt;rw[if_neg hwne];rfl
theorem BT(l:List Signed):∀(ps seen:List Int),(cg l seen ps).length<=ps.length
 | [],_=>by simp[cg]
 | p::t,seen=>by
  have:=BT l t (seen++[p]);rw[cg];split
  . rw[List.length_cons];omega
  . rw[List.length_cons,List.length_cons];omega
theorem qY{l:List Signed}:∀{ps seen:List Int},(∀p∈ps,p<l.length)-> ∀s∈cg l seen ps,∃p∈ps,p ∉ seen/\0<=p/\l[p.toNat]? =some s
 | [],_,_,s,hs=>by simp[cg]at hs
 | p::t,seen,hp,s,hs=>by
  rw[cg]at hs;split at hs
  . obtain⟨q,h1,h2,h3⟩:=qY (fun q hq=>hp q (aX _ hq)) s hs;exact⟨q,aX _ h1,fun e=>h2 (List.mem_append.2 (.inl e)),h3⟩
  . rename_i hc;simp only[Bool.or_eq_true,decide_eq_true_eq,dm,not_or]at hc;have hlt:=hp p (List.mem_cons_self ..);obtain⟨x,hx⟩:∃x,l[p.toNat]? =some x:=⟨_,ah (by omega)⟩
    rw[hx]at hs;rcases List.mem_cons.1 hs with e | hs
    . have e:s=x:=e;subst e;exact⟨p,List.mem_cons_self .., hc.2,by omega,hx⟩
    . obtain⟨q,h1,h2,h3⟩:=qY (fun q hq=>hp q (aX _ hq)) s hs;exact⟨q,aX _ h1,fun e=>h2 (List.mem_append.2 (.inl e)),h3⟩
theorem uP(v:View):(cd v).sets=v.sets:=by unfold cd;split <;> rfl
theorem CH{v:View}(hd:(iV v).length<=900):∃ps:List Int,(∀p∈ps,p<v.sets.length)/\ps.length<=1000/\(ff v).sets=cg v.sets [] ps:=by
 have e:=uP v;have hl:=pa v (iV v);unfold ff;split
 . rename_i h;refine⟨dV v,fun p hp=>sX hp,?_,?_⟩
   . unfold dV;simp;omega
   . unfold jh;rw[if_pos h]
 split
 . exact⟨_,by simp[cU],by simp,rfl⟩
 split
 . exact⟨_,by simp[cU],by simp,rfl⟩
 split
 . rename_i h;refine⟨[dy v,eG v.sets v.q.name],by simp[dy,cU,dz],by simp,?_⟩;unfold kj;rw[if_pos h]
 split
 . refine⟨[_,_],?_,by simp,by unfold xF;rw[e]⟩;intro p hp;simp only[List.mem_cons,List.not_mem_nil,or_false]at hp;rcases hp with rfl | rfl
   . exact cU _ _
   . exact dz _ _
 split
 . refine⟨[_,_],?_,by simp,by unfold ma;rw[e]⟩;intro p hp;simp only[List.mem_cons,List.not_mem_nil,or_false]at hp;rcases hp with rfl | rfl
   . exact cU _ _
   . exact dz _ _
 split
 . rename_i h;refine⟨[_,_,_],?_,by simp,by unfold kA;rw[if_pos h,e]⟩;intro p hp;simp only[List.mem_cons,List.not_mem_nil,or_false]at hp;rcases hp with rfl | rfl | rfl
   . unfold dy;rw[e];exact cU _ _
   . exact dz _ _
   . exact dz _ _
 . refine⟨[_,_,_],?_,by simp,by unfold jt;rw[e]⟩;intro p hp;simp only[List.mem_cons,List.not_mem_nil,or_false]at hp;have hpos:(0:Int)<=v.sets.length:=by omega
   rcases hp with rfl | rfl | rfl
   . unfold dy;rw[e];exact cU _ _
   . exact dz _ _
   . split
     . omega
     . exact dz _ _
theorem wi{z:aP}(hf:eu z=true)(q:aW):∃ps:List Int,(∀p∈ps,p<z.sets.length)/\ps.length<=1000/\(bF z q).1.sets=cg z.sets [] ps:=by
 have none:∃ps:List Int,(∀p∈ps,p<z.sets.length)/\ps.length<=1000/\([]:List Signed)=cg z.sets [] ps:=⟨[],by simp,by simp,rfl⟩
 unfold bF;split
 . exact none
 split
 . exact none
 split
 . exact none
 . refine CH (v:=jZ z q _ _) ?_;unfold iV;split
   . rename_i s hs;have:=((dx hf).2 s (ao hs)).1;omega
   . simp
theorem Ly{z:aP}(hf:eu z=true)(q:aW):∀s∈(bF z q).1.sets,s∈z.sets:=by
 obtain⟨ps,h1,_,h3⟩:=wi hf q;rw[h3];intro s hs;obtain⟨p,_,_,_,h⟩:=qY h1 s hs;exact ao h
theorem DI{z:aP}(hf:eu z=true)(q:aW):(bF z q).1.sets.length<=1000:=by
 obtain⟨ps,h1,h2,h3⟩:=wi hf q;rw[h3];have:=BT z.sets ps [];omega
structure Use(z:aP)(q:aW):Prop where
 few:eu z=true
 val:bD z=true
 quest:bB q=true
 under:aL q.name z.apex=true
theorem Use.name{z:aP}{q:aW}(u:Use z q):aj q.name=true:=by have:=u.quest;unfold bB at this;simp only[aN]at this;exact this.1.1
theorem Use.ord{z:aP}{q:aW}(u:Use z q):Ordered z:=bx u.val
def vw(z:aP)(q:aW):View:=jZ z q (bq z q.name) (!(bq z q.name==[]))
theorem Use.cut{z:aP}{q:aW}(u:Use z q):dS z q.name=(bq z q.name, !(bq z q.name==[]),0):=DT u.val u.name u.under
theorem Use.ans{z:aP}{q:aW}(u:Use z q):bF z q=(ff (vw z q),0):=by
 have hq:=u.quest;unfold bB at hq;simp only[aN,decide_eq_true_eq]at hq;unfold bF;rw[if_neg (by simp;omega),u.cut];rfl
theorem Co(z:aP)(q:aW):eC (vw z q)=(!(bq z q.name==[])&& !((bq z q.name==q.name)&&fk q)):=by
 unfold eC rX fk vw jZ;dsimp only;rw[Bool.beq_comm (a:=q.name) (b:=bq z q.name)];cases (bq z q.name==[]) <;> cases (bq z q.name==q.name) <;> simp
theorem Gy(v:View):(ff v).kind=if eC v=true then 4 else if tP v=true then 1 else if mX v=true then 3 else if exB v.sets v.q.name=true then 5
 else if py (cd v)=true then 2 else if fu (cd v)=true then 3 else if jw (cd v)=true then 5 else 6:=by
 unfold ff;split
 . rename_i h;unfold jh;rw[if_pos h]
 split
 . rfl
 split
 . rfl
 split
 . rename_i h;unfold kj;rw[if_pos h]
 split
 . rfl
 split
 . rfl
 split
 . rename_i h;unfold kA;rw[if_pos h]
 . rfl
theorem I7{v:View}(h:eC v=false):(ff v).cut=[]:=by
 unfold ff;rw[if_neg (by simp[h])]
 repeat' split
 all_goals first | rfl | skip
 . unfold kj;split <;> rfl
 . unfold kA;split <;> rfl
theorem Use.Ed{z:aP}{q:aW}(u:Use z q)(hr:eC (vw z q)=false):((bF z q).1.kind==4)=false/\(bF z q).1.cut=[]:=by
 rw[u.ans];refine⟨?_,I7 hr⟩;show((ff (vw z q)).kind==4)=false
 rw[Gy,hr];simp only[av, ↓reduceIte]
 repeat' split
 all_goals rfl
theorem Use.Lp{z:aP}{q:aW}(u:Use z q)(hr:eC (vw z q)=true):∃s0 R,s0∈z.sets/\s0.place=(bq z q.name,2)/\(bF z q).1=⟨4,s0::R,bq z q.name⟩ /\
 ∀s∈R,(s.set.type=6/\s.set.name=bq z q.name)\/(s.set.type=8/\s.set.name=bq z q.name)\/(s.set.type=1/\bI s.set.name (bq z q.name)=(true,0)/\s0.set.data.any (fun d=>d.text==s.set.name)=true):=by
 have hne:bq z q.name ≠ []:=by
  intro e;rw[Co,e]at hr;cases hr
 obtain⟨hcv,hcut⟩:=sd u.ord hne;have ho:=u.ord;obtain⟨k,s0,h1,h2,h3⟩:=nN hcut;have hm0:=ao h2;have hserv:dL (vw z q)=((k:Nat):Int):=h1;have hsd:iV (vw z q)=s0.set.data:=by
  unfold iV;rw[hserv];show(match z.sets[((k:Nat):Int).toNat]? with | some s=>s.set.data | none=>[])=_
  rw[show((k:Nat):Int).toNat=k by simp,h2]
 have hlt:∀p∈dV (vw z q),p<z.sets.length:=fun p hp=>sX (v:=vw z q) hp
 have e1:cg z.sets [] (dV (vw z q))=s0::cg z.sets [dL (vw z q)] (hX (vw z q)::dO (vw z q) (iV (vw z q))):=by
  unfold dV;rw[show[dL (vw z q),hX (vw z q)]++dO (vw z q) (iV (vw z q))=dL (vw z q)::(hX (vw z q)::dO (vw z q) (iV (vw z q)))from rfl,cg,if_neg (by rw[hserv];simp)];rw[hserv];simp[h2]
 refine⟨s0,cg z.sets [dL (vw z q)] (hX (vw z q)::dO (vw z q) (iV (vw z q))),hm0,h3,?_,fun s hs=>?_⟩
 . rw[u.ans];show ff (vw z q)=_
   unfold ff;rw[if_pos hr];unfold jh;rw[if_pos hr];show(⟨4,cg z.sets [] (dV (vw z q)),bq z q.name⟩:Ans)=_
   rw[e1]
 . obtain⟨p,hp1,hp2,hp3,hp4⟩:=qY (fun p hp=>hlt p (by unfold dV;exact aX _ hp)) s hs;have hsm:=ao hp4;have atp:∀q' :aW,p=atI z.sets q' ->s.place=q'.place:=fun q' e=>by
    have hh:b9 z.sets q' =true:=by
     have:=jl z.sets q';cases hc:b9 z.sets q' with
     | true=>rfl
     | false=>rw[hc]at this;simp at this;omega
    obtain⟨j,t,a1,a2,a3⟩:=nN hh;rw[a1]at e;have:p.toNat=j:=by omega
    rw[this,a2]at hp4;cases hp4;exact a3
   rcases List.mem_cons.1 hp1 with hp | hp
   . unfold hX at hp;split at hp
     . have:=atp ⟨bq z q.name,8⟩ hp;exact .inr (.inl ⟨congrArg Prod.snd this,congrArg Prod.fst this⟩)
     . have:=atp ⟨bq z q.name,6⟩ hp;exact .inl ⟨congrArg Prod.snd this,congrArg Prod.fst this⟩
   . unfold dO at hp;obtain⟨d,hd,hx⟩:=List.mem_flatMap.1 hp;split at hx
     . rename_i hu;simp at hx;have:=atp ⟨d.text,1⟩ hx;have hn:s.set.name=d.text:=congrArg Prod.fst this;refine .inr (.inr ⟨congrArg Prod.snd this,?_,?_⟩)
       . have hv:=ho.name s hsm;have hu' :(bI d.text (bq z q.name)).1=true:=hu;rw[<- hn]at hu';unfold bI at hu' ⊢;rw[if_pos ⟨hv,hcv⟩]at hu' ⊢;simp only at hu';rw[hu']
       . rw[hsd]at hd;exact List.any_eq_true.2 ⟨d,hd,by rw[hn];simp⟩
     . cases hx
end NP
