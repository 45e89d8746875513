/-
  Texts of the proof, merged in build order.
-/
import Derived.Test.YtjapjahfllomkaaGreatDoorAbM
import Derived.Test.YtjapjahfllomkaaGreatDoorLrbM
import Derived.Test.YtjapjahfllomkaaGreatDoorMLcv
import Derived.Test.YtjapjahfllomkaaGreatDoorMVa
set_option linter.all false
set_option maxRecDepth 100000
namespace NP
open NQ Go
def qE(l:List Signed):List Datum:=match l[0]? with | some s=>s.set.data | none=>[]
def jc(z:aQ)(cut:Bs)(l:List Signed)(h:List Datum):List Signed:=h.foldl (fun l d=>if aG d.text cut=true then bn l z ⟨d.text,1⟩else l) l
def rl0(z:aQ)(cut:Bs):List Signed:=bn [] z ⟨cut,2⟩
def rl1(z:aQ)(cut:Bs):List Signed:=bn (rl0 z cut) z ⟨cut,6⟩
def rl2(z:aQ)(cut:Bs):List Signed:=if (((rl1 z cut).length:Int)==((rl0 z cut).length:Int))=true then bn (rl1 z cut) z ⟨cut,8⟩else rl1 z cut
def kK(z:aQ)(cut:Bs):Ans:=⟨4,jc z cut (rl2 z cut) (qE (rl0 z cut)),cut⟩
theorem xP(z:aQ)(cut:Bs)(l:List Signed)(h:List Datum)(d:Datum):jc z cut l (h++[d])=if aG d.text cut=true then bn (jc z cut l h) z ⟨d.text,1⟩else jc z cut l h:=by
 unfold jc;rw[List.foldl_append];rfl
theorem tO(z:aQ)(cut:Bs):∀(h:List Datum) (l:List Signed),(jc z cut l h).length<=l.length+h.length
 | [],l=>by simp[jc]
 | d::h,l=>by
  have e:jc z cut l (d::h)=jc z cut (if aG d.text cut=true then bn l z ⟨d.text,1⟩else l) h:=rfl;rw[e];have:=tO z cut h (if aG d.text cut=true then bn l z ⟨d.text,1⟩else l);have h2:=iR l z ⟨d.text,1⟩;rw[List.length_cons];split at this <;> rename_i hc <;> simp only[hc,if_true,if_false,ay] <;> omega
theorem zT{s:fZ}(h:dZ s=true)(ht:s.type=2):∀d∈s.data,aj d.text=true:=fun d hd=>by
 unfold dZ at h;simp only[aP,ax,List.mem_range]at h;obtain⟨i,hi⟩:=b5 hd;have hlt:=(ar.1 hi).1;have:=h.2 i hlt;obtain⟨p,hp⟩:∃p,s.data[i-1]? =some p:=⟨_,ai (by omega)⟩
 rw[wc hi hp,ht]at this;have hr:fo 2=⟨1,0,0,0,0,false,false,false⟩:=rfl;rw[hr]at this;simp only[nE,fI,kj,Bool.not_eq_true',Bool.or_eq_false_iff,Bool.not_eq_false',aP,if_true]at this;exact this.1.2.1
theorem E0{z:aQ}(ho:Ordered z)(hf:eI z=true):∀s∈z.sets,s.set.data.length<=900/\(s.set.type=2-> ∀d∈s.set.data,aj d.text=true):=fun s hs =>
 ⟨by have:=((dH hf).2 s hs).1;omega,fun ht=>zT (ho.set s hs) ht⟩
theorem sK{z:aQ}{n:Bs}(ho:Ordered z)(h:bw z n ≠ []):aj (bw z n)=true/\cd z.sets ⟨bw z n,2⟩=true:=by
 unfold bw at h ⊢;cases hf:(cD z.apex z.sets).find? fun c=>aG n c with
 | none=>rw[hf]at h;exact absurd rfl h
 | some c =>
  have hm:=List.mem_of_find?_eq_some hf;obtain⟨_,_,h3,_,h5⟩:=Hw ho hm;exact⟨h3,h5⟩
theorem rz{z:aQ}{q:bg}(h:cd z.sets q=true):cQ z q.name=true:=by
 obtain⟨s,hs,hp⟩:=mN.1 h;have:s.set.name=q.name:=congrArg Prod.fst hp;exact List.any_eq_true.2 ⟨s,hs,by rw[this];exact fF _⟩
theorem Fz(l:List Signed)(z:aQ)(n:Bs):(bK l z n).length<=l.length+1:=by
 unfold bK;split
 . exact iR _ _ _
 . omega
theorem sh{z:aQ}{n:Bs}(hn:aj n=true):aj (cV z n)=true:=by
 unfold cV;generalize (bd n).length+1=f;induction f generalizing n with
 | zero=>exact hn
 | succ f ih =>
  rw[vZ];split
  . exact hn
  . exact ih (eV hn)
theorem Hy{c:Bs}(h:(!(c==[]))=true):c ≠ []:=by intro e;rw[e]at h;cases h
theorem vS{z:aQ}{q:bg}(h:cd z.sets q=true):∃s,s∈z.sets/\s.place=q.place/\bn [] z q=[s]:=by
 obtain⟨k,s,h1,h2,h3⟩:=oc h;refine⟨s,aq h2,h3,?_⟩;unfold bn;rw[h1,if_neg (by simp),if_neg (by simp[cd])];simp[h2]
theorem G4{z:aQ}{q:bg}(h:cd z.sets q=false):bn [] z q=[]:=by
 unfold bn;rw[jD,h];rfl
def fy(q:bg):Bool:=q.type==6||q.type==8
def lk(z:aQ)(q:bg):Ans×Int :=
 if (!bE z|| !bZ q)=true then(lp,1)else if (!aG q.name z.apex)=true then(⟨7,[],[]⟩,0)
 else if (!(bw z q.name==[])&&(!(bw z q.name==q.name)|| !fy q))=true then(kK z (bw z q.name),0)
 else if decide (((bn [] z q).length:Int)>0)=true then(⟨1,bn [] z q,[]⟩,0)
 else if (decide (((bn [] z ⟨q.name,3⟩).length:Int)>0)&&(q.type != 8))=true then(⟨3,bn [] z ⟨q.name,3⟩,[]⟩,0)
 else if cQ z q.name=true then(⟨5,bK (bn [] z ⟨z.apex,4⟩) z q.name,[]⟩,0)
 else if (!((cA ([42]::bd (cV z q.name))).2==0))=true then(⟨6,bK (bn [] z ⟨z.apex,4⟩) z q.name,[]⟩,0)
 else let w:=(cA ([42]::bd (cV z q.name))).1
 if decide (((bn [] z ⟨w,q.type⟩).length:Int)>0)=true then(⟨2,bK (bn [] z ⟨w,q.type⟩) z q.name,[]⟩,0)
 else if (decide (((bn [] z ⟨w,3⟩).length:Int)>0)&&(q.type != 8))=true then(⟨3,bK (bn [] z ⟨w,3⟩) z q.name,[]⟩,0)
 else if cQ z w=true then(⟨5,bK (bK (bn [] z ⟨z.apex,4⟩) z q.name) z w,[]⟩,0)
 else(⟨6,bK (bK (bn [] z ⟨z.apex,4⟩) z q.name) z w,[]⟩,0)
end NP
namespace Go.Proofs.YtjapjahfllomkaaGreatDoor
open NQ Go NP Go.RowKit
theorem I5(z:aQ)(cut:Bs)(hz:z.sets.length<=10000)(hc:aj cut=true)(hcut:cd z.sets ⟨cut,2⟩=true)(hd:∀s∈z.sets,s.set.data.length<=900/\(s.set.type=2-> ∀d∈s.set.data,aj d.text=true)) :
 NQ.Fn cx 143 [.agg (bp z), .str cut] (.agg ((dw (kK z cut)).map .d)) []:=by
 show NQ.Fn cxR _ _ _ _
 refine cR (fun | 11=>[66666] | _=>[]) tyR Ce Tryz.func143 (by kernel_rfl) rfl (ah rfl) ?_
 conv=>whnf
 have addK:∀(l:List Signed) (fl:Bool) (n:Bs) (t:Int),l.length<=100000->FnR cxR 144 true 74 5 (l.map aw) fl [.agg (bp z), .str n, .int .i64 t] ((bn l z ⟨n,t⟩).map aw):=fun l fl n t hl=>ig (cx:=cx) (cx' :=cxR) rfl rfl (mF l fl z n t hl (by omega))
 obtain⟨s0,hs0,hp0,e0⟩:=vS hcut;have hr0:rl0 z cut=[s0]:=e0;have hdat:=(hd s0 hs0).1;have hdn:=(hd s0 hs0).2 (by have:=congrArg Prod.snd hp0;exact this);refine⟨_,addK [] false cut 2 (by simp),?_⟩
 conv=>whnf
 rw[e0];refine⟨by decide,by simp,?_⟩
 conv=>whnf
 refine⟨_,rfl,?_⟩
 conv=>whnf
 refine⟨_,addK [s0] _ cut 6 (by simp),?_⟩
 conv=>whnf
 have hr1:rl1 z cut=bn [s0] z ⟨cut,6⟩:=by unfold rl1;rw[hr0]
 have hl1:=iR [s0] z ⟨cut,6⟩;have hl2:=iR (bn [s0] z ⟨cut,6⟩) z ⟨cut,8⟩;have hlist:(((bn [s0] z ⟨cut,6⟩).map aw).length:Int)=((rl1 z cut).length:Int):=by rw[ao,hr1]
 have hlist0:(([s0].map aw).length:Int)=((rl0 z cut).length:Int):=by rw[ao,hr0]
 rw[hlist,hlist0];have hho:qE (rl0 z cut)=s0.set.data:=by unfold qE;rw[hr0];rfl
 have h2len:(rl2 z cut).length<=3:=by
  unfold rl2;rw[hr1];have h1' :[s0].length=1:=rfl;split <;> omega
 refine ae (fun heq=>?_) (fun heq=>?_) <;> (rw[heq];conv=>whnf)
 . have hr2:rl2 z cut=bn (bn [s0] z ⟨cut,6⟩) z ⟨cut,8⟩:=by unfold rl2;rw[if_pos heq,hr1]
   refine⟨_,addK (bn [s0] z ⟨cut,6⟩) _ cut 8 (by simp at hl1;omega),?_⟩
   conv=>whnf
   (refine⟨Nat,fun k=>⟨[(1, .d (.str cut)),(2, .ptr 2 0),(4, .ptr 4 0),(5, .own 11),(6, .d (.slice 3 (s0.set.data.map cz))),(8, .d (.int .i64 k))],[(2, .box ((bp z).map .d)),(4, .box [.d (.int .i64 0), .nil 5, .d (.str [])]),(11, .row 74 5 ((jc z cut (rl2 z cut) (s0.set.data.take k)).map aw))]⟩,fun k=>k<=s0.set.data.length,fun k=>s0.set.data.length-k,⟨0,by omega,an.keep ⟨⟨rfl,rfl⟩,⟨rfl,rfl⟩,⟨rfl,rfl⟩,⟨rfl,rfl⟩,⟨rfl,rfl⟩,⟨rfl,rfl⟩,trivial⟩ ⟨⟨rfl,rfl⟩,⟨rfl,rfl⟩,⟨by(rw[hr2];rfl),rfl⟩,trivial⟩⟩,fun k hk=>?_⟩;(conv=>whnf);refine ae (fun h1=>?_) (fun h1=>?_) <;> (rw[h1];conv=>whnf))
   . have hlt:k<s0.set.data.length:=by simp at h1;omega
     obtain⟨d,hdk⟩:∃d,s0.set.data[k]? =some d:=⟨_,ai hlt⟩
     have hdv:=hdn d (aq hdk);have hsn:=xP z cut (rl2 z cut) (s0.set.data.take k) d;rw[<- bt hdk]at hsn;have hrl:=tO z cut (s0.set.data.take k) (rl2 z cut);rw[List.length_take]at hrl;refine⟨aH k,cz d,aU hdk,?_⟩
     conv=>whnf
     (refine⟨_,_,lT d.text cut (bI hdv) (bI hc),?_⟩;conv=>whnf)
     refine ae (fun hu=>?_) (fun hu=>?_) <;> (rw[hu];conv=>whnf)
     . rw[if_pos hu]at hsn
       (refine⟨(by kernel_rfl:gV _=true),?_⟩;conv=>whnf)
       refine⟨aH k,cz d,aU hdk,?_⟩
       conv=>whnf
       refine⟨_,addK _ _ d.text 1 (by omega),?_⟩
       conv=>whnf
       (repeat (refine⟨by kernel_rfl,?_⟩));conv=>whnf
       exact⟨k+1,hlt,by(show s0.set.data.length-(k+1)<s0.set.data.length-k;omega),an.keep ⟨⟨rfl,rfl⟩,⟨rfl,rfl⟩,⟨rfl,rfl⟩,⟨rfl,rfl⟩,⟨rfl,rfl⟩,⟨au (by omega),rfl⟩,trivial⟩ ⟨⟨rfl,rfl⟩,⟨rfl,rfl⟩,⟨by(rw[hsn];rfl),rfl⟩,trivial⟩⟩
     . rw[if_neg (by simp[hu])]at hsn;exact⟨k+1,hlt,by(show s0.set.data.length-(k+1)<s0.set.data.length-k;omega),an.keep ⟨⟨rfl,rfl⟩,⟨rfl,rfl⟩,⟨rfl,rfl⟩,⟨rfl,rfl⟩,⟨rfl,rfl⟩,⟨au (by omega),rfl⟩,trivial⟩ ⟨⟨rfl,rfl⟩,⟨rfl,rfl⟩,⟨by(rw[hsn];rfl),rfl⟩,trivial⟩⟩
   . obtain rfl:k=s0.set.data.length:=by simp at h1;omega
     refine af rfl ?_;unfold kK;rw[hho,List.take_length];rfl
 . have hr2:rl2 z cut=bn [s0] z ⟨cut,6⟩:=by unfold rl2;rw[if_neg (by simp[heq]),hr1]
   (refine⟨Nat,fun k=>⟨[(1, .d (.str cut)),(2, .ptr 2 0),(4, .ptr 4 0),(5, .own 11),(6, .d (.slice 3 (s0.set.data.map cz))),(8, .d (.int .i64 k))],[(2, .box ((bp z).map .d)),(4, .box [.d (.int .i64 0), .nil 5, .d (.str [])]),(11, .row 74 5 ((jc z cut (rl2 z cut) (s0.set.data.take k)).map aw))]⟩,fun k=>k<=s0.set.data.length,fun k=>s0.set.data.length-k,⟨0,by omega,an.keep ⟨⟨rfl,rfl⟩,⟨rfl,rfl⟩,⟨rfl,rfl⟩,⟨rfl,rfl⟩,⟨rfl,rfl⟩,⟨rfl,rfl⟩,trivial⟩ ⟨⟨rfl,rfl⟩,⟨rfl,rfl⟩,⟨by(rw[hr2];rfl),rfl⟩,trivial⟩⟩,fun k hk=>?_⟩;(conv=>whnf);refine ae (fun h1=>?_) (fun h1=>?_) <;> (rw[h1];conv=>whnf))
   . have hlt:k<s0.set.data.length:=by simp at h1;omega
     obtain⟨d,hdk⟩:∃d,s0.set.data[k]? =some d:=⟨_,ai hlt⟩
     have hdv:=hdn d (aq hdk);have hsn:=xP z cut (rl2 z cut) (s0.set.data.take k) d;rw[<- bt hdk]at hsn;have hrl:=tO z cut (s0.set.data.take k) (rl2 z cut);rw[List.length_take]at hrl;refine⟨aH k,cz d,aU hdk,?_⟩
     conv=>whnf
     (refine⟨_,_,lT d.text cut (bI hdv) (bI hc),?_⟩;conv=>whnf)
     refine ae (fun hu=>?_) (fun hu=>?_) <;> (rw[hu];conv=>whnf)
     . rw[if_pos hu]at hsn
       (refine⟨(by kernel_rfl:gV _=true),?_⟩;conv=>whnf)
       refine⟨aH k,cz d,aU hdk,?_⟩
       conv=>whnf
       refine⟨_,addK _ _ d.text 1 (by omega),?_⟩
       conv=>whnf
       (repeat (refine⟨by kernel_rfl,?_⟩));conv=>whnf
       exact⟨k+1,hlt,by(show s0.set.data.length-(k+1)<s0.set.data.length-k;omega),an.keep ⟨⟨rfl,rfl⟩,⟨rfl,rfl⟩,⟨rfl,rfl⟩,⟨rfl,rfl⟩,⟨rfl,rfl⟩,⟨au (by omega),rfl⟩,trivial⟩ ⟨⟨rfl,rfl⟩,⟨rfl,rfl⟩,⟨by(rw[hsn];rfl),rfl⟩,trivial⟩⟩
     . rw[if_neg (by simp[hu])]at hsn;exact⟨k+1,hlt,by(show s0.set.data.length-(k+1)<s0.set.data.length-k;omega),an.keep ⟨⟨rfl,rfl⟩,⟨rfl,rfl⟩,⟨rfl,rfl⟩,⟨rfl,rfl⟩,⟨rfl,rfl⟩,⟨au (by omega),rfl⟩,trivial⟩ ⟨⟨rfl,rfl⟩,⟨rfl,rfl⟩,⟨by(rw[hsn];rfl),rfl⟩,trivial⟩⟩
   . obtain rfl:k=s0.set.data.length:=by simp at h1;omega
     refine af rfl ?_;unfold kK;rw[hho,List.take_length];rfl
def fzR:Nat->List Nat
 | 11=>[55555]
 | 14=>[55555]
 | 17=>[66666,55555]
 | 18=>[55555]
 | 20=>[55555]
 | 23=>[55555]
 | 26=>[55555]
 | 29=>[55555]
 | _=>[]
def stR(z:aQ)(q:bg):St:=⟨[(2, .ptr 2 0),(3, .ptr 3 0),(4, .ptr 4 0)],[(2, .box ((bp z).map .d)),(3, .box ((cT q).map .d)),(4, .box [.d (.int .i64 0), .nil 5, .d (.str [])])]⟩
def CI(z:aQ)(q:bg)(w:Bs)(proof:List Signed):St:=⟨[(2, .ptr 2 0),(3, .ptr 3 0),(4, .ptr 4 0),(11, .own 87),(12, .d (.str w))],[(2, .box ((bp z).map .d)),(3, .box ((cT q).map .d)),(4, .box [.d (.int .i64 0), .nil 5, .d (.str [])]),(87, .row 74 5 (proof.map aw))]⟩
def Od(z:aQ)(q:bg)(proof:List Signed):St:=⟨[(2, .ptr 2 0),(3, .ptr 3 0),(4, .ptr 4 0),(11, .own 87)],[(2, .box ((bp z).map .d)),(3, .box ((cT q).map .d)),(4, .box [.d (.int .i64 0), .nil 5, .d (.str [])]),(87, .row 74 5 (proof.map aw))]⟩
theorem sn(z:aQ)(q:bg)(hf:eI z=true)(hv:bE z=true)(hq:bZ q=true)(w:Bs)(hwv:aj w=true)(proof:List Signed)(hpl:proof.length<=1000)(r:Ans×Int)(hr:(if cQ z w=true then((⟨5,bK proof z w,[]⟩:Ans),(0:Int))else(⟨6,bK proof z w,[]⟩,0))=r)(st:St)(hw:an cxR st (CI z q w proof)) :
 vc cxR Tryz.f78.ntmps fzR (np 20 ((Tryz.f78.body).getD .skip)) (fnQ cxR Tryz.f78.results.toList (.tuple [.agg ((dw r.1).map .d), .d (.int .i64 r.2)]) []) st:=by
 obtain⟨f1,f2⟩:=dH hf;have hz5:z.sets.length<=100000:=by omega
 have addK:∀(l:List Signed) (fl:Bool) (n:Bs) (t:Int),l.length<=100000->FnR cxR 144 true 74 5 (l.map aw) fl [.agg (bp z), .str n, .int .i64 t] ((bn l z ⟨n,t⟩).map aw):=fun l fl n t hl=>ig (cx:=cx) (cx' :=cxR) rfl rfl (mF l fl z n t hl hz5)
 have lenE:∀n t,(((bn [] z ⟨n,t⟩).map aw).length:Int)=((bn [] z ⟨n,t⟩).length:Int):=fun n t=>by rw[ao]
 have len1:∀n t,(bn [] z ⟨n,t⟩).length<=100:=fun n t=>by have:=iR [] z ⟨n,t⟩;simp at this;omega
 have ho:=bz hv;have hqn:aj q.name=true:=by unfold bZ at hq;simp only[aP]at hq;exact hq.1.1
 have covK:∀(l:List Signed) (fl:Bool) (n:Bs),l.length<=100000->aj n=true->FnR cxR 145 true 74 5 (l.map aw) fl [.agg (bp z), .str n] ((bK l z n).map aw):=fun l fl n hl hn=>ig (cx:=cx) (cx' :=cxR) rfl rfl (nC l fl z n hl hz5 ho.name hn)
 conv=>whnf
 refine⟨CI z q w proof,hw,?_⟩
 conv=>whnf
 refine⟨_,covK proof _ w (by omega) hwv,?_⟩
 conv=>whnf
 (refine⟨_,_,rm z w hz5 ho.name hwv,?_⟩;conv=>whnf)
 refine ae (fun hew=>?_) (fun hew=>?_) <;> (rw[hew];conv=>whnf)
 . rw[if_pos hew]at hr;subst hr;exact af rfl rfl
 . rw[if_neg (by rw[hew];simp)]at hr;subst hr;exact af rfl rfl
theorem Aw(z : aQ)(q : bg)(hf : eI z = true)(hv : bE z = true)(hq : bZ q = true)(w : Bs)(hwv : aj w = true)(proof : List Signed)(hpl : proof.length <= 1000)(r : Ans × Int)(hr : (if decide (((bn [] z ⟨w, q.type⟩).length : Int) > 0) = true then ((⟨2, bK (bn [] z ⟨w, q.type⟩) z q.name, []⟩ : Ans), (0 : Int))
      else if (decide (((bn [] z ⟨w,3⟩).length:Int)>0)&&(q.type != 8))=true then(⟨3,bK (bn [] z ⟨w,3⟩) z q.name,[]⟩,0)
      else if cQ z w=true then(⟨5,bK proof z w,[]⟩,0)else(⟨6,bK proof z w,[]⟩,0))=r) (st:St) (hw:an cxR st (CI z q w proof)) :
 vc cxR Tryz.f78.ntmps fzR (np 16 ((Tryz.f78.body).getD .skip)) (fnQ cxR Tryz.f78.results.toList (.tuple [.agg ((dw r.1).map .d), .d (.int .i64 r.2)]) []) st:=by
 obtain⟨f1,f2⟩:=dH hf;have hz5:z.sets.length<=100000:=by omega
 have addK:∀(l:List Signed) (fl:Bool) (n:Bs) (t:Int),l.length<=100000->FnR cxR 144 true 74 5 (l.map aw) fl [.agg (bp z), .str n, .int .i64 t] ((bn l z ⟨n,t⟩).map aw):=fun l fl n t hl=>ig (cx:=cx) (cx' :=cxR) rfl rfl (mF l fl z n t hl hz5)
 have lenE:∀n t,(((bn [] z ⟨n,t⟩).map aw).length:Int)=((bn [] z ⟨n,t⟩).length:Int):=fun n t=>by rw[ao]
 have len1:∀n t,(bn [] z ⟨n,t⟩).length<=100:=fun n t=>by have:=iR [] z ⟨n,t⟩;simp at this;omega
 have ho:=bz hv;have hqn:aj q.name=true:=by unfold bZ at hq;simp only[aP]at hq;exact hq.1.1
 have covK:∀(l:List Signed) (fl:Bool) (n:Bs),l.length<=100000->aj n=true->FnR cxR 145 true 74 5 (l.map aw) fl [.agg (bp z), .str n] ((bK l z n).map aw):=fun l fl n hl hn=>ig (cx:=cx) (cx' :=cxR) rfl rfl (nC l fl z n hl hz5 ho.name hn)
 conv=>whnf
 refine⟨CI z q w proof,hw,?_⟩
 conv=>whnf
 refine⟨_,addK [] false w q.type (by simp),?_⟩
 conv=>whnf
 rw[lenE];refine ae (fun hdw=>?_) (fun hdw=>?_) <;> (rw[hdw];conv=>whnf)
 . rw[if_pos hdw]at hr;subst hr;refine⟨_,covK (bn [] z ⟨w,q.type⟩) _ q.name (by have:=len1 w q.type;omega) hqn,?_⟩
   conv=>whnf
   exact af rfl rfl
 rw[if_neg (by rw[hdw];simp)]at hr;refine⟨CI z q w proof,an.keep ⟨⟨rfl,rfl⟩,⟨rfl,rfl⟩,⟨rfl,rfl⟩,⟨rfl,rfl⟩,⟨rfl,rfl⟩,trivial⟩ ⟨⟨rfl,rfl⟩,⟨rfl,rfl⟩,⟨rfl,rfl⟩,⟨rfl,rfl⟩,trivial⟩,?_⟩
 conv=>whnf
 refine⟨_,addK [] false w 3 (by simp),?_⟩
 conv=>whnf
 rw[lenE];refine ae (fun haw=>?_) (fun haw=>?_) <;> (rw[haw];conv=>whnf)
 . refine ae (fun h8w=>?_) (fun h8w=>?_) <;> (rw[h8w];conv=>whnf)
   . rw[if_pos (by rw[haw,h8w];rfl)]at hr;subst hr;refine⟨_,covK (bn [] z ⟨w,3⟩) _ q.name (by have:=len1 w 3;omega) hqn,?_⟩
     conv=>whnf
     exact af rfl rfl
   . rw[if_neg (by rw[haw,h8w];simp)]at hr;exact sn z q hf hv hq w hwv proof hpl r hr _ (an.keep ⟨⟨rfl,rfl⟩,⟨rfl,rfl⟩,⟨rfl,rfl⟩,⟨rfl,rfl⟩,⟨rfl,rfl⟩,trivial⟩ ⟨⟨rfl,rfl⟩,⟨rfl,rfl⟩,⟨rfl,rfl⟩,⟨rfl,rfl⟩,trivial⟩)
 . rw[if_neg (by rw[haw];simp)]at hr;exact sn z q hf hv hq w hwv proof hpl r hr _ (an.keep ⟨⟨rfl,rfl⟩,⟨rfl,rfl⟩,⟨rfl,rfl⟩,⟨rfl,rfl⟩,⟨rfl,rfl⟩,trivial⟩ ⟨⟨rfl,rfl⟩,⟨rfl,rfl⟩,⟨rfl,rfl⟩,⟨rfl,rfl⟩,trivial⟩)
set_option maxHeartbeats 1000000 in
theorem sm(z : aQ)(q : bg)(hf : eI z = true)(hv : bE z = true)(hq : bZ q = true)(hu : aG q.name z.apex = true)(r : Ans × Int)(hr : (if cQ z q.name = true then ((⟨5, bK (bn [] z ⟨z.apex, 4⟩) z q.name, []⟩ : Ans), (0 : Int))
      else if (!((cA ([42]::bd (cV z q.name))).2==0))=true then(⟨6,bK (bn [] z ⟨z.apex,4⟩) z q.name,[]⟩,0)
      else let w:=(cA ([42]::bd (cV z q.name))).1
      if decide (((bn [] z ⟨w,q.type⟩).length:Int)>0)=true then(⟨2,bK (bn [] z ⟨w,q.type⟩) z q.name,[]⟩,0)
      else if (decide (((bn [] z ⟨w,3⟩).length:Int)>0)&&(q.type != 8))=true then(⟨3,bK (bn [] z ⟨w,3⟩) z q.name,[]⟩,0)
      else if cQ z w=true then(⟨5,bK (bK (bn [] z ⟨z.apex,4⟩) z q.name) z w,[]⟩,0)
      else(⟨6,bK (bK (bn [] z ⟨z.apex,4⟩) z q.name) z w,[]⟩,0))=r) (st:St) (hw:an cxR st (stR z q)) :
 vc cxR Tryz.f78.ntmps fzR (np 12 ((Tryz.f78.body).getD .skip)) (fnQ cxR Tryz.f78.results.toList (.tuple [.agg ((dw r.1).map .d), .d (.int .i64 r.2)]) []) st:=by
 obtain⟨f1,f2⟩:=dH hf;have hz5:z.sets.length<=100000:=by omega
 have addK:∀(l:List Signed) (fl:Bool) (n:Bs) (t:Int),l.length<=100000->FnR cxR 144 true 74 5 (l.map aw) fl [.agg (bp z), .str n, .int .i64 t] ((bn l z ⟨n,t⟩).map aw):=fun l fl n t hl=>ig (cx:=cx) (cx' :=cxR) rfl rfl (mF l fl z n t hl hz5)
 have lenE:∀n t,(((bn [] z ⟨n,t⟩).map aw).length:Int)=((bn [] z ⟨n,t⟩).length:Int):=fun n t=>by rw[ao]
 have len1:∀n t,(bn [] z ⟨n,t⟩).length<=100:=fun n t=>by have:=iR [] z ⟨n,t⟩;simp at this;omega
 have ho:=bz hv;have hqn:aj q.name=true:=by unfold bZ at hq;simp only[aP]at hq;exact hq.1.1
 have covK:∀(l:List Signed) (fl:Bool) (n:Bs),l.length<=100000->aj n=true->FnR cxR 145 true 74 5 (l.map aw) fl [.agg (bp z), .str n] ((bK l z n).map aw):=fun l fl n hl hn=>ig (cx:=cx) (cx' :=cxR) rfl rfl (nC l fl z n hl hz5 ho.name hn)
 have hval:=qT.1 hv;have hex:cQ z z.apex=true:=rz hval.start;have hcl:aj (cV z q.name)=true:=sh hqn
 conv=>whnf
 refine⟨stR z q,hw,?_⟩
 conv=>whnf
 (refine⟨(by kernel_rfl:gV _=true),?_⟩;conv=>whnf)
 refine⟨_,addK [] false z.apex 4 (by simp),?_⟩
 conv=>whnf
 (repeat (refine⟨by kernel_rfl,?_⟩));conv=>whnf
 refine⟨_,covK (bn [] z ⟨z.apex,4⟩) _ q.name (by have:=len1 z.apex 4;omega) hqn,?_⟩
 conv=>whnf
 (repeat (refine⟨by kernel_rfl,?_⟩));conv=>whnf
 refine⟨Od z q (bK (bn [] z ⟨z.apex,4⟩) z q.name),an.keep ⟨⟨rfl,rfl⟩,⟨rfl,rfl⟩,⟨rfl,rfl⟩,⟨rfl,rfl⟩,trivial⟩ ⟨⟨rfl,rfl⟩,⟨rfl,rfl⟩,⟨rfl,rfl⟩,⟨rfl,rfl⟩,trivial⟩,?_⟩
 conv=>whnf
 (refine⟨_,_,rm z q.name hz5 ho.name hqn,?_⟩;conv=>whnf)
 refine ae (fun he=>?_) (fun he=>?_) <;> (rw[he];conv=>whnf)
 . rw[if_pos he]at hr;subst hr;exact af rfl rfl
 rw[if_neg (by rw[he];simp)]at hr;refine⟨Od z q (bK (bn [] z ⟨z.apex,4⟩) z q.name),an.keep ⟨⟨rfl,rfl⟩,⟨rfl,rfl⟩,⟨rfl,rfl⟩,⟨rfl,rfl⟩,trivial⟩ ⟨⟨rfl,rfl⟩,⟨rfl,rfl⟩,⟨rfl,rfl⟩,⟨rfl,rfl⟩,trivial⟩,?_⟩
 conv=>whnf
 (refine⟨_,_,Fv z q.name hz5 ho.name hqn hu hex,?_⟩;conv=>whnf)
 (refine⟨_,_,Eg (cV z q.name) hcl,?_⟩;conv=>whnf)
 refine ae (fun hj=>?_) (fun hj=>?_) <;> (rw[hj];conv=>whnf)
 . rw[if_pos hj]at hr;subst hr;exact af rfl rfl
 rw[if_neg (by rw[hj];simp)]at hr;have hwv:aj (cA ([42]::bd (cV z q.name))).1=true:=by
  have hj0:(cA ([42]::bd (cV z q.name))).2=0:=by simpa using hj
  unfold cA at hj0 ⊢;split
  . rename_i h;exact(yA h).1
  . rename_i h;rw[if_neg h]at hj0;simp at hj0
 have hcl2:=Fz (bn [] z ⟨z.apex,4⟩) z q.name;have hl4:=len1 z.apex 4;exact Aw z q hf hv hq _ hwv _ (by omega) r hr _ (an.keep ⟨⟨rfl,rfl⟩,⟨rfl,rfl⟩,⟨rfl,rfl⟩,⟨rfl,rfl⟩,⟨rfl,rfl⟩,trivial⟩ ⟨⟨rfl,rfl⟩,⟨rfl,rfl⟩,⟨rfl,rfl⟩,⟨rfl,rfl⟩,trivial⟩)
theorem Cy(z:aQ)(q:bg)(hf:eI z=true)(hv:bE z=true)(hq:bZ q=true)(hu:aG q.name z.apex=true)(hno:(!(bw z q.name==[])&&(!(bw z q.name==q.name)|| !fy q))=false)(r:Ans×Int)(hr:lk z q=r)(st:St)(hw:an cxR st (stR z q)) :
 vc cxR Tryz.f78.ntmps fzR (np 8 ((Tryz.f78.body).getD .skip)) (fnQ cxR Tryz.f78.results.toList (.tuple [.agg ((dw r.1).map .d), .d (.int .i64 r.2)]) []) st:=by
 obtain⟨f1,f2⟩:=dH hf;have hz5:z.sets.length<=100000:=by omega
 have addK:∀(l:List Signed) (fl:Bool) (n:Bs) (t:Int),l.length<=100000->FnR cxR 144 true 74 5 (l.map aw) fl [.agg (bp z), .str n, .int .i64 t] ((bn l z ⟨n,t⟩).map aw):=fun l fl n t hl=>ig (cx:=cx) (cx' :=cxR) rfl rfl (mF l fl z n t hl hz5)
 have lenE:∀n t,(((bn [] z ⟨n,t⟩).map aw).length:Int)=((bn [] z ⟨n,t⟩).length:Int):=fun n t=>by rw[ao]
 have len1:∀n t,(bn [] z ⟨n,t⟩).length<=100:=fun n t=>by have:=iR [] z ⟨n,t⟩;simp at this;omega
 have ho:=bz hv;have hqn:aj q.name=true:=by unfold bZ at hq;simp only[aP]at hq;exact hq.1.1
 have covK:∀(l:List Signed) (fl:Bool) (n:Bs),l.length<=100000->aj n=true->FnR cxR 145 true 74 5 (l.map aw) fl [.agg (bp z), .str n] ((bK l z n).map aw):=fun l fl n hl hn=>ig (cx:=cx) (cx' :=cxR) rfl rfl (nC l fl z n hl hz5 ho.name hn)
 have hvq:(!bE z|| !bZ q)=false:=by rw[hv,hq];rfl
 unfold lk at hr;rw[if_neg (by simp[hvq]),if_neg (by simp[hu]),if_neg (by rw[hno];simp)]at hr
 conv=>whnf
 refine⟨stR z q,hw,?_⟩
 conv=>whnf
 refine⟨_,addK [] false q.name q.type (by simp),?_⟩
 conv=>whnf
 rw[lenE];refine ae (fun hd=>?_) (fun hd=>?_) <;> (rw[hd];conv=>whnf)
 . rw[if_pos hd]at hr;subst hr;exact af rfl rfl
 rw[if_neg (by rw[hd];simp)]at hr;refine⟨stR z q,an.keep ⟨⟨rfl,rfl⟩,⟨rfl,rfl⟩,⟨rfl,rfl⟩,trivial⟩ ⟨⟨rfl,rfl⟩,⟨rfl,rfl⟩,⟨rfl,rfl⟩,trivial⟩,?_⟩
 conv=>whnf
 refine⟨_,addK [] false q.name 3 (by simp),?_⟩
 conv=>whnf
 rw[lenE];refine ae (fun ha=>?_) (fun ha=>?_) <;> (rw[ha];conv=>whnf)
 . refine ae (fun h8=>?_) (fun h8=>?_) <;> (rw[h8];conv=>whnf)
   . rw[if_pos (by rw[ha,h8];rfl)]at hr;subst hr;exact af rfl rfl
   . rw[if_neg (by rw[ha,h8];simp)]at hr;exact sm z q hf hv hq hu r hr _ (an.keep ⟨⟨rfl,rfl⟩,⟨rfl,rfl⟩,⟨rfl,rfl⟩,trivial⟩ ⟨⟨rfl,rfl⟩,⟨rfl,rfl⟩,⟨rfl,rfl⟩,trivial⟩)
 . rw[if_neg (by rw[ha];simp)]at hr;exact sm z q hf hv hq hu r hr _ (an.keep ⟨⟨rfl,rfl⟩,⟨rfl,rfl⟩,⟨rfl,rfl⟩,trivial⟩ ⟨⟨rfl,rfl⟩,⟨rfl,rfl⟩,⟨rfl,rfl⟩,trivial⟩)
theorem Gs(z:aQ)(q:bg)(hf:eI z=true):NQ.Fn cx 78 [.agg (bp z), .agg (cT q)] (.tuple [.agg ((dw (lk z q).1).map .d), .d (.int .i64 (lk z q).2)]) []:=by
 show NQ.Fn cxR _ _ _ _
 refine cR fzR tyR Ce Tryz.func78 (by kernel_rfl) rfl (ah rfl) ?_
 conv=>whnf
 obtain⟨f1,f2⟩:=dH hf;have hz5:z.sets.length<=100000:=by omega
 have addK:∀(l:List Signed) (fl:Bool) (n:Bs) (t:Int),l.length<=100000->FnR cxR 144 true 74 5 (l.map aw) fl [.agg (bp z), .str n, .int .i64 t] ((bn l z ⟨n,t⟩).map aw):=fun l fl n t hl=>ig (cx:=cx) (cx' :=cxR) rfl rfl (mF l fl z n t hl hz5)
 have len1:∀n t,(bn [] z ⟨n,t⟩).length<=1:=fun n t=>iR [] z ⟨n,t⟩
 have lenE:∀n t,(((bn [] z ⟨n,t⟩).map aw).length:Int)=((bn [] z ⟨n,t⟩).length:Int):=fun n t=>by rw[ao]
 (refine⟨_,_,zQ z hz5,?_⟩;conv=>whnf)
 (refine⟨_,_,I4 q,?_⟩;conv=>whnf)
 have bad:(!bE z|| !bZ q)=true->lk z q=(lp,1):=fun h=>by unfold lk;rw[if_pos h]
 refine ae (fun hv=>?_) (fun hv=>?_) <;> (rw[hv];conv=>whnf)
 . exact af rfl (by rw[bad (by rw[hv];rfl)];rfl)
 refine ae (fun hq=>?_) (fun hq=>?_) <;> (rw[hq];conv=>whnf)
 . exact af rfl (by rw[bad (by rw[hq];simp)];rfl)
 have hvq:(!bE z|| !bZ q)=false:=by rw[hv,hq];rfl
 have hv:bE z=true:=by simpa using hv
 have hq:bZ q=true:=by simpa using hq
 have ho:=bz hv;have hqn:aj q.name=true:=by unfold bZ at hq;simp only[aP]at hq;exact hq.1.1
 have covK:∀(l:List Signed) (fl:Bool) (n:Bs),l.length<=100000->aj n=true->FnR cxR 145 true 74 5 (l.map aw) fl [.agg (bp z), .str n] ((bK l z n).map aw):=fun l fl n hl hn=>ig (cx:=cx) (cx' :=cxR) rfl rfl (nC l fl z n hl hz5 ho.name hn)
 (refine⟨_,_,lT q.name z.apex (bI hqn) (bI ho.apex),?_⟩;conv=>whnf)
 refine ae (fun hu=>?_) (fun hu=>?_) <;> (rw[hu];conv=>whnf)
 . exact af rfl (by unfold lk;rw[if_neg (by simp[hvq]),if_pos hu];rfl)
 have hun:(!aG q.name z.apex)=false:=hu;have hu:aG q.name z.apex=true:=by simpa using hu
 (refine⟨_,_,Kf z q.name hz5 ho.name hqn,?_⟩;conv=>whnf)
 have base : lk z q = if (!(bw z q.name == []) && (!(bw z q.name == q.name) || !fy q)) = true then (kK z (bw z q.name), 0)
     else if decide (((bn [] z q).length:Int)>0)=true then(⟨1,bn [] z q,[]⟩,0)
     else if (decide (((bn [] z ⟨q.name,3⟩).length:Int)>0)&&(q.type != 8))=true then(⟨3,bn [] z ⟨q.name,3⟩,[]⟩,0)
     else if cQ z q.name=true then(⟨5,bK (bn [] z ⟨z.apex,4⟩) z q.name,[]⟩,0)
     else if (!((cA ([42]::bd (cV z q.name))).2==0))=true then(⟨6,bK (bn [] z ⟨z.apex,4⟩) z q.name,[]⟩,0)
     else let w:=(cA ([42]::bd (cV z q.name))).1
     if decide (((bn [] z ⟨w,q.type⟩).length:Int)>0)=true then(⟨2,bK (bn [] z ⟨w,q.type⟩) z q.name,[]⟩,0)
     else if (decide (((bn [] z ⟨w,3⟩).length:Int)>0)&&(q.type != 8))=true then(⟨3,bK (bn [] z ⟨w,3⟩) z q.name,[]⟩,0)
     else if cQ z w=true then(⟨5,bK (bK (bn [] z ⟨z.apex,4⟩) z q.name) z w,[]⟩,0)
     else(⟨6,bK (bK (bn [] z ⟨z.apex,4⟩) z q.name) z w,[]⟩,0):=by unfold lk;rw[if_neg (by simp[hvq]),if_neg (by simp[hun])]
 have ref:bw z q.name ≠ []->NQ.Fn cxR 143 [.agg (bp z), .str (bw z q.name)] (.agg ((dw (kK z (bw z q.name))).map .d)) []:=fun hne=>by
  obtain⟨c1,c2⟩:=sK ho hne;exact I5 z (bw z q.name) (by omega) c1 c2 (E0 ho hf)
 have done:∀(b:Bool),(!(bw z q.name==[])&&(!(bw z q.name==q.name)|| !fy q))=b->b=true->lk z q=(kK z (bw z q.name),0):=fun b h1 h2=>by rw[base,if_pos (by rw[h1,h2])]
 have hval:=qT.1 hv;have hex:cQ z z.apex=true:=rz hval.start;have hcl:aj (cV z q.name)=true:=sh hqn
 repeat' (first
  | (refine ae (fun h=>?_) (fun h=>?_) <;> (rw[h];conv=>whnf))
  | (refine ⟨_, _, ref (Hy (by assumption)), ?_⟩
     conv=>whnf
     have e0:(!(bw z q.name==[]))=true:=by assumption
     have e1:(!(bw z q.name==[])&&(!(bw z q.name==q.name)|| !fy q))=true:=by(unfold fy;simp only[*, if_true,if_false,ay,aJ,aI,aK,aM,aL,az,aC,aD,aE,aF,aB])
     exact af rfl (by rw[done _ e1 rfl];rfl))
  | fail)
 all_goals
  have hno:(!(bw z q.name==[])&&(!(bw z q.name==q.name)|| !fy q))=false:=by
   unfold fy
   first
    | (have e0 : (!(bw z q.name == [])) = true := by assumption
       simp only[*, if_true,if_false,ay,aJ,aI,aK,aM,aL,az,aC,aD,aE,aF,aB];done)
    | (have e0 : (!(bw z q.name == [])) = false := by assumption
       simp only[*, if_true,if_false,ay,aJ,aI,aK,aM,aL,az,aC,aD,aE,aF,aB];done)
  exact Cy z q hf hv hq hu hno _ rfl _ (an.keep ⟨⟨rfl,rfl⟩,⟨rfl,rfl⟩,⟨rfl,rfl⟩,trivial⟩ ⟨⟨rfl,rfl⟩,⟨rfl,rfl⟩,⟨rfl,rfl⟩,trivial⟩)
end Go.Proofs.YtjapjahfllomkaaGreatDoor
namespace NP
open NQ Go
def gp(sets:List Signed)(l:List Signed)(p:Int):List Signed :=
 if decide (p<0)=true then l else match sets[p.toNat]? with | some s=>if cd l (qOf s)=true then l else l++[s] | none=>l
def G2(sets l:List Signed)(seen:List Int):Prop:= ∀(k:Nat) s,sets[k]? =some s->cd l (qOf s)=seen.contains (k:Int)
theorem zK{sets:List Signed}(hr:RP sets){i j:Nat}{a b:Signed}(ha:sets[i]? =some a)(hb:sets[j]? =some b)(h:a.place=b.place):i=j:=by
 have hp:=List.pairwise_iff_getElem.1 hr;obtain⟨hi,e1⟩:=ar.1 ha;obtain⟨hj,e2⟩:=ar.1 hb;rcases Nat.lt_trichotomy i j with hlt | heq | hlt
 . exact absurd h (by have:=hp i j hi hj hlt;rw[e1,e2]at this;exact nD this)
 . exact heq
 . exact absurd h.symm (by have:=hp j i hj hi hlt;rw[e1,e2]at this;exact nD this)
theorem lv{sets:List Signed}(hr:RP sets):∀(ps:List Int) (l:List Signed) (seen:List Int),(∀p∈ps,p<sets.length)->G2 sets l seen->ps.foldl (gp sets) l=l++cj sets seen ps
 | [],l,seen,_,_=>by simp[cj]
 | p::ps,l,seen,hp,hs=>by
  have hps:∀q∈ps,q<sets.length:=fun q hq=>hp q (aW _ hq)
  rw[List.foldl_cons,cj];by_cases hneg:p<0
  . have e:gp sets l p=l:=by unfold gp;rw[if_pos (by simpa using hneg)]
    rw[e,if_pos (by simp[hneg])];refine lv hr ps l _ hps fun k s hk=>?_
    rw[hs k s hk,Bool.eq_iff_iff,c8,c8,List.mem_append];refine⟨.inl,fun h=>h.elim id fun h=>?_⟩;simp at h;omega
  . have hplt:=hp p (List.mem_cons_self ..);obtain⟨s,hsp⟩:∃s,sets[p.toNat]? =some s:=⟨_,ai (by omega)⟩
    have hpn:((p.toNat:Nat):Int)=p:=by omega
    have hin:=hs p.toNat s hsp;rw[hpn]at hin;cases hc:seen.contains p with
    | true =>
     rw[hc]at hin;have e:gp sets l p=l:=by unfold gp;rw[if_neg (by simpa using hneg),hsp];simp only[hin,if_true]
     rw[e,if_pos (by simp[hc])];refine lv hr ps l _ hps fun k t hk=>?_
     rw[hs k t hk,Bool.eq_iff_iff,c8,c8,List.mem_append];refine⟨.inl,fun h=>h.elim id fun h=>?_⟩;simp at h;rw[h];exact c8.1 hc
    | false =>
     rw[hc]at hin;have e:gp sets l p=l++[s]:=by unfold gp;rw[if_neg (by simpa using hneg),hsp];simp only[hin,if_false,ay]
     rw[e,if_neg (by simp[hneg,hc]),hsp];rw[lv hr ps (l++[s]) (seen++[p]) hps fun k t hk=>?_]
     . simp
     . have:cd (l++[s]) (qOf t)=(cd l (qOf t)||is (qOf t) s):=by unfold cd;rw[List.any_append];simp
       rw[this,hs k t hk,Bool.eq_iff_iff,Bool.or_eq_true,c8,c8,List.mem_append];refine or_congr Iff.rfl ?_;rw[k7,List.mem_singleton];constructor
       . intro h;have:=zK hr hsp hk h;omega
       . intro h;have:k=p.toNat:=by omega
         subst this;rw[hsp]at hk;cases hk;rfl
theorem rZ(sets:List Signed):G2 sets [] []:=fun k s _=>rfl
theorem fQ{z:aQ}(l:List Signed)(q:bg):bn l z q=gp z.sets l (atI z.sets q):=by
 unfold bn gp;by_cases h:decide (atI z.sets q<0)=true
 . rw[if_pos h,if_pos h]
 . rw[if_neg h,if_neg h];have hh:cd z.sets q=true:=by
    have:=jD z.sets q;cases hc:cd z.sets q with
    | true=>rfl
    | false=>rw[hc]at this;exact absurd this h
   obtain⟨k,s,h1,h2,h3⟩:=oc hh;have hk:(atI z.sets q).toNat=k:=by rw[h1];rfl
   rw[hk,h2];simp only;have:cd l q=cd l (qOf s):=by
    unfold cd
    congr 1
    funext x
    rw[Bool.eq_iff_iff,k7,k7];have:(qOf s).place=q.place:=h3;rw[this]
   rw[this]
theorem xd(l:List Signed)(n:Bs):∀k:Nat,k<=mi l n->(∀i s,i<k->l[i]? =some s->aR s.set.name n<=0)->(kT l n k=none/\jR l k= -1)\/ ∃i s,l[i]? =some s/\kT l n k=some s/\jR l k=((i:Nat):Int)/\s.set.type=8
 | 0,_,_=> .inl ⟨rfl,rfl⟩
 | k+1,hk,h=>by
  have hlt:k<l.length:=by have:=mQ l n;omega
  obtain⟨s,hs⟩:∃s,l[k]? =some s:=⟨_,ai hlt⟩
  have hc:=h k s (by omega) hs;simp only[kT,jR,hs];by_cases ht:s.set.type=8
  . refine .inr ⟨k,s,hs,?_,?_,ht⟩
    . rw[if_pos (by unfold lY;simp[ht,hc])]
    . simp[ht]
  . have e1:lY n s=false:=by unfold lY;simp[ht]
    rw[if_neg (by simp[e1])];have e2:(s.set.type==8)=false:=by simpa using ht
    have:=xd l n k (by omega) fun i s hi hs=>h i s (by omega) hs
    simpa [e2,ht] using this
theorem ze(l:List Signed)(n:Bs):∀k j:Nat,j<=k->(∀i s,j<=i->i<k->l[i]? =some s->0<aR s.set.name n)->kT l n k=kT l n j
 | 0, j, hj, _ => by obtain rfl : j = 0 := by omega
                     rfl
 | k+1,j,hj,h=>by
  by_cases e:j=k+1
  . rw[e]
  . rw[kT];have:=ze l n k j (by omega) fun i s h1 h2 hs=>h i s h1 (by omega) hs
    cases hs:l[k]? with
    | none=>exact this
    | some s =>
     have hc:=h k s (by omega) (by omega) hs;have e1:lY n s=false:=by unfold lY;rw[decide_eq_false (by omega)];simp
     simp only;rw[if_neg (by simp[e1])];exact this
theorem Hu{z:aQ}(hr:dA z.sets)(n:Bs):(kT z.sets n z.sets.length=none/\eH z.sets n= -1)\/ ∃i s,z.sets[i]? =some s/\kT z.sets n z.sets.length=some s/\eH z.sets n=((i:Nat):Int)/\s.set.type=8:=by
 have hp:=lO hr;rw[ze z.sets n z.sets.length (mi z.sets n) (mQ _ _) fun i s h1 _ hs=>(rN hp hs).1 h1];exact xd z.sets n _ (Nat.le_refl _) fun i s hi hs=>by
  have:¬(mi z.sets n<=i):=by omega
  rw[rN hp hs]at this;omega
theorem kY{z:aQ}(hr:dA z.sets)(l:List Signed)(n:Bs):bK l z n=gp z.sets l (eH z.sets n):=by
 unfold bK;rcases Hu hr n with ⟨h1,h2⟩ | ⟨i,s,hs,h1,h2,ht⟩
 . rw[h1,h2];rfl
 . rw[h1,h2];simp only;rw[fQ];have hmem:=aq hs;have hq:(⟨s.set.name,8⟩:bg).place=s.place:=by unfold bg.place Signed.place;simp[ht]
   have hh:cd z.sets ⟨s.set.name,8⟩=true:=mN.2 ⟨s,hmem,hq.symm⟩;obtain⟨k,t,h3,h4,h5⟩:=oc hh;have:=zK hr.pw h4 hs (h5.trans hq);subst this;rw[h3]
theorem MC{a b:Bs}(h:aR a b<=0):0<=aR b a:=by have:=bc.anti a b;omega
theorem J3{a b:Bs}(h:0<=aR a b):aR b a<=0:=by have:=bc.anti a b;omega
theorem uc{s n:Bs}(hs:aj s=true)(hn:aj n=true):(bx s n).1=aG s n:=by unfold bx;rw[if_pos ⟨hs,hn⟩]
theorem l0{z:aQ}(ho:Ordered z){n:Bs}(hn:aj n=true):exB z.sets n=cQ z n:=by
 have hp:=lO ho.rising;have ge:∀s∈z.sets,aG s.set.name n=true-> ∃i,z.sets[i]? =some s/\n5 z.sets n<=i:=fun s hs hu=>by
  obtain⟨i,hi⟩:=b5 hs;exact⟨i,hi,(rO hp hi).2 (MC (mU hu))⟩
 unfold exB cQ;cases hg:z.sets[n5 z.sets n]? with
 | none =>
  symm
  rw[List.any_eq_false];intro s hs hu;obtain⟨i,hi,hle⟩:=ge s hs hu;have h1:=(ar.1 hi).1;have h2:=List.getElem?_eq_none_iff.1 hg;omega
 | some t =>
  have htm:=aq hg;simp only;rw[uc (ho.name t htm) hn];cases hu:aG t.set.name n with
  | true=>symm;exact List.any_eq_true.2 ⟨t,htm,hu⟩
  | false =>
   symm
   rw[List.any_eq_false];intro s hs hus;obtain⟨i,hi,hle⟩:=ge s hs hus;have hnt:aR n t.set.name<=0:=J3 ((rO hp hg).1 (Nat.le_refl _));have hts:aR t.set.name s.set.name<=0:=by
    rcases Nat.lt_or_eq_of_le hle with hlt | heq
    . obtain⟨h1,e1⟩:=ar.1 hg;obtain⟨h2,e2⟩:=ar.1 hi;have:=List.pairwise_iff_getElem.1 hp _ _ h1 h2 hlt
      rwa [e1,e2]at this
    . rw[<- heq,hg]at hi;cases hi;have:=(bc.zero t.set.name t.set.name).2 rfl;omega
   have:=mV (fF n) hus hnt hts;rw[hu]at this;cases this
theorem Bh{z:aQ}(ho:Ordered z)(hex:cQ z z.apex=true):∀(f:Nat) (n:Bs),aj n=true->aG n z.apex=true->mJ z.apex z.sets f n=vZ z f n
 | 0,n,_,_=>rfl
 | f+1,n,hn,hu=>by
  rw[mJ,vZ];by_cases hne:n=z.apex
  . subst hne;rw[if_pos rfl,if_pos hex]
  . rw[if_neg hne,l0 ho hn];cases he:cQ z n with
    | true=>rw[if_pos rfl,if_pos rfl]
    | false =>
     rw[if_neg (by simp),if_neg (by simp)];obtain⟨_,k2,_⟩:=kg hn hu hne;exact Bh ho hex f (cw n) (eV hn) k2
theorem xm{z:aQ}{v:View}(hv:v.sets=z.sets)(hc:aj v.cut=true):∀(h:List Datum) (l:List Signed),(∀d∈h,aj d.text=true)->jc z v.cut l h=(dQ v h).foldl (gp z.sets) l
 | [],l,_=>by simp[jc,dQ]
 | d::h,l,hd=>by
  have e1:jc z v.cut l (d::h)=jc z v.cut (if aG d.text v.cut=true then bn l z ⟨d.text,1⟩else l) h:=rfl;have e2:dQ v (d::h)=(if (bx d.text v.cut).1=true then[atI v.sets ⟨d.text,1⟩]else[])++dQ v h:=by unfold dQ;rw[List.flatMap_cons]
  rw[e1,e2,List.foldl_append,uc (hd d (List.mem_cons_self ..)) hc,xm hv hc h _ fun x hx=>hd x (aW _ hx)]
  congr 1
  split
  . rw[fQ,hv];rfl
  . rfl
theorem MR{v:View}{l:List Datum}{q:Int}(hq:q∈dQ v l):q<v.sets.length:=by
 unfold dQ at hq;obtain⟨x,_,hx⟩:=List.mem_flatMap.1 hq;split at hx
 . simp at hx;rw[hx];exact cZ _ _
 . cases hx
theorem tL{v:View}{q:Int}(hq:q∈dY v):q<v.sets.length:=by
 unfold dY at hq;rcases List.mem_append.1 hq with hq | hq
 . simp at hq;rcases hq with rfl | rfl
   . exact cZ _ _
   . unfold iq;split <;> exact cZ _ _
 . exact MR hq
theorem Ll{z:aQ}{v:View}(ho:Ordered z)(hf:eI z=true)(hs:v.sets=z.sets)(hc:aj v.cut=true)(hcut:cd z.sets ⟨v.cut,2⟩=true):(⟨4,cj v.sets [] (dY v),v.cut⟩:Ans)=kK z v.cut:=by
 obtain⟨s0,hs0,hp0,e0⟩:=vS hcut;have hr0:rl0 z v.cut=[s0]:=e0;have e2:rl2 z v.cut=gp z.sets (gp z.sets [] (dM v)) (iq v):=by
  have e3:gp z.sets [] (dM v)=[s0]:=by unfold dM;rw[hs, <- fQ];exact e0
  rw[e3];unfold rl2;rw[hr0];have hr1:rl1 z v.cut=gp z.sets [s0] (atI z.sets ⟨v.cut,6⟩):=by unfold rl1;rw[hr0,fQ]
  by_cases hneg:atI z.sets ⟨v.cut,6⟩<0
  . have:rl1 z v.cut=[s0]:=by rw[hr1];unfold gp;rw[if_pos (by simpa using hneg)]
    rw[this,if_pos (by simp),fQ];unfold iq;rw[hs,if_pos (by simpa using hneg)]
  . obtain⟨k,s,h1,h2,h3⟩:=oc (l:=z.sets) (q:=⟨v.cut,6⟩) (by
     have:=jD z.sets ⟨v.cut,6⟩;cases hc:cd z.sets ⟨v.cut,6⟩with
     | true=>rfl
     | false=>rw[hc]at this;simp at this;omega)
    have hno:cd [s0] (qOf s)=false:=by
     unfold cd;simp only[List.any_cons,List.any_nil,aC];rw[<- Bool.not_eq_true,k7];intro e;have e' :s0.place=s.place:=e;rw[hp0,h3]at e';have:=congrArg Prod.snd e';simp[bg.place]at this
    have:rl1 z v.cut=[s0]++[s]:=by rw[hr1,h1];unfold gp;rw[if_neg (by simp)];simp only[show((k:Nat):Int).toNat=k by simp,h2,hno];rfl
    rw[this,if_neg (by simp), <- this,hr1];unfold iq;rw[hs,if_neg (by simpa using hneg)]
 have hho:qE (rl0 z v.cut)=jg v:=by
  have h1:dM v=atI z.sets ⟨v.cut,2⟩:=by unfold dM;rw[hs]
  obtain⟨k,s,a1,a2,a3⟩:=oc hcut;have:s=s0:=RP.uniq ho.rising.pw (aq a2) hs0 (a3.trans hp0.symm);subst this;unfold qE jg;rw[hr0,h1,a1,hs];simp[a2]
 have hdv:∀d∈jg v,aj d.text=true:=by
  rw[<- hho];unfold qE;rw[hr0];exact((E0 ho hf) s0 hs0).2 (congrArg Prod.snd hp0)
 unfold kK
 congr 1
 rw[hho,e2,xm hs hc _ _ hdv,hs];have:=lv ho.rising.pw (dY v) [] [] (fun p hp=>by rw[<- hs];exact tL hp) (rZ _);rw[List.nil_append]at this;rw[<- this];unfold dY;rw[List.foldl_append];rfl
theorem Mg{z:aQ}(ho:Ordered z)(p:Int)(hp:p<z.sets.length):cj z.sets [] [p]=gp z.sets [] p:=by
 have:=lv ho.rising.pw [p] [] [] (fun q hq=>by simp at hq;rw[hq];exact hp) (rZ _);rw[List.nil_append]at this;rw[<- this];rfl
theorem AJ{z:aQ}(ho:Ordered z)(p q:Int)(hp:p<z.sets.length)(hq:q<z.sets.length):cj z.sets [] [p,q]=gp z.sets (gp z.sets [] p) q:=by
 have:=lv ho.rising.pw [p,q] [] [] (fun r hr=>by simp at hr;rcases hr with rfl | rfl <;> assumption) (rZ _);rw[List.nil_append]at this;rw[<- this];rfl
theorem Mh{z:aQ}(ho:Ordered z)(p q r:Int)(hp:p<z.sets.length)(hq:q<z.sets.length)(hr:r<z.sets.length):cj z.sets [] [p,q,r]=gp z.sets (gp z.sets (gp z.sets [] p) q) r:=by
 have:=lv ho.rising.pw [p,q,r] [] [] (fun x hx=>by simp at hx;rcases hx with rfl | rfl | rfl <;> assumption) (rZ _);rw[List.nil_append]at this;rw[<- this];rfl
theorem uq{z:aQ}{q:bg}:decide (((bn [] z q).length:Int)>0)=decide (atI z.sets q>=0):=by
 have h:=jD z.sets q;cases hh:cd z.sets q with
 | true =>
  obtain⟨s,_,_,e⟩:=vS hh;rw[e];rw[hh]at h;have:¬atI z.sets q<0:=by simpa using h
  rw[decide_eq_true (by simp),decide_eq_true (by omega)]
 | false =>
  rw[G4 hh];rw[hh]at h;have:atI z.sets q<0:=by simpa using h
  rw[decide_eq_false (by simp),decide_eq_false (by omega)]
theorem He{z:aQ}(ho:Ordered z)(t:Int):atI z.sets ⟨[],t⟩<0:=by
 have h:=jD z.sets ⟨[],t⟩;cases hh:cd z.sets ⟨[],t⟩with
 | true =>
  obtain⟨s,hs,hp⟩:=mN.1 hh;have hv:=ho.name s hs;have:s.set.name=[]:=congrArg Prod.fst hp;rw[this]at hv;exact absurd rfl (km hv)
 | false=>rw[hh]at h;simpa using h
theorem No{z:aQ}(hf:eI z=true)(q:bg):lk z q=bG z q:=by
 unfold lk;have hty:(decide (q.type<1)||decide (q.type>8))=true->bG z q=(lp,1):=fun h=>by unfold bG;rw[if_pos h]
 have hcu:∀c b e,(decide (q.type<1)||decide (q.type>8))=false->dV z q.name=(c,b,e)->bG z q=if (e==20)=true then(⟨7,[],[]⟩,0)else if (e != 0)=true then(lp,e)else(fp (ko z q c b),0):=fun c b e h hc=>by
  unfold bG;rw[if_neg (by simp[h]),hc]
 cases hv:bE z with
 | false =>
  rw[if_pos (by simp)];have hc:dV z q.name=([],false,1):=by unfold dV;rw[hv];simp
  cases ht:(decide (q.type<1)||decide (q.type>8))with
  | true=>rw[hty ht]
  | false=>rw[hcu _ _ _ ht hc];rfl
 | true =>
 have ho:=bz hv;cases hqn:aj q.name with
 | false =>
  have hqb:bZ q=false:=by unfold bZ;rw[hqn];rfl
  rw[if_pos (by rw[hqb];rfl)];have hc:dV z q.name=([],false,1):=by unfold dV;rw[hqn];simp
  cases ht:(decide (q.type<1)||decide (q.type>8))with
  | true=>rw[hty ht]
  | false=>rw[hcu _ _ _ ht hc];rfl
 | true =>
 cases ht:(decide (q.type<1)||decide (q.type>8))with
 | true =>
  have hqb:bZ q=false:=by
   unfold bZ;rw[hqn];simp at ht ⊢;omega
  rw[if_pos (by rw[hqb];rfl),hty ht]
 | false =>
 have hqb:bZ q=true:=by
  unfold bZ;rw[hqn];simp at ht ⊢;omega
 rw[if_neg (by rw[hqb];simp)];cases hu:aG q.name z.apex with
 | false =>
  rw[if_pos (by simp)];have hc:dV z q.name=([],false,20):=by unfold dV;rw[hqn,hv,uc hqn ho.apex,hu];simp
  rw[hcu _ _ _ ht hc];rfl
 | true =>
 rw[if_neg (by simp)];have hc:=Ew hv hqn hu;have hR:bG z q=(fp (ko z q (bw z q.name) (!(bw z q.name==[]))),0):=by rw[hcu _ _ _ ht hc];rfl
 rw[hR];have hval:=qT.1 hv;have hex:cQ z z.apex=true:=rz hval.start;generalize hcc:bw z q.name=c;have hcOk:c ≠ []->aj c=true/\cd z.sets ⟨c,2⟩=true:=fun h=>hcc ▸ sK ho (hcc ▸ h)
 dsimp only;generalize hvv:ko z q c (!(c==[]))=v;have hsets:v.sets=z.sets:=by rw[<- hvv];rfl
 have hvq:v.q=q:=by rw[<- hvv];rfl
 have hvc:v.cut=c:=by rw[<- hvv];rfl
 have hva:v.apex=z.apex:=by rw[<- hvv];rfl
 have hwild:v.cN=[]:=by rw[<- hvv];rfl
 have hrB:eC v=(!(c==[])&&(!(c==q.name)|| !fy q)):=by
  rw[<- hvv];unfold eC sD fy ko;dsimp only;rw[Bool.beq_comm (a:=q.name) (b:=c)];cases (c==[]) <;> cases (c==q.name) <;> simp
 unfold fp;rw[hrB];cases hr:(!(c==[])&&(!(c==q.name)|| !fy q))with
 | true =>
  simp only[↓reduceIte];have hne:c ≠ []:=by intro e;rw[e]at hr;simp at hr
  obtain⟨h1,h2⟩:=hcOk hne;have:=Ll (v:=v) ho hf hsets (by rw[hvc];exact h1) (by rw[hvc];exact h2);unfold jz;rw[hrB,hr,if_pos rfl,this,hvc]
 | false =>
 simp only[ay, ↓reduceIte];have hd:uv v=decide (((bn [] z q).length:Int)>0):=by unfold uv;rw[uq,hsets,hvq]
 rw[hd];cases hdd:decide (((bn [] z q).length:Int)>0)with
 | true =>
  simp only[↓reduceIte];unfold xe;rw[hsets,hvq,Mg ho _ (cZ _ _),fQ]
 | false =>
 simp only[ay, ↓reduceIte];have ha:ny v=(decide (((bn [] z ⟨q.name,3⟩).length:Int)>0)&&(q.type != 8)):=by unfold ny;rw[uq,hsets,hvq]
 rw[ha];cases haa:(decide (((bn [] z ⟨q.name,3⟩).length:Int)>0)&&(q.type != 8))with
 | true =>
  simp only[↓reduceIte];unfold wT;rw[hsets,hvq,Mg ho _ (cZ _ _),fQ]
 | false =>
 simp only[ay, ↓reduceIte];have hproof:cj z.sets [] [dB v,eH v.sets v.q.name]=bK (bn [] z ⟨z.apex,4⟩) z q.name:=by
  rw[AJ ho _ _ (by unfold dB;rw[hsets];exact cZ _ _) (by rw[hsets];exact dC _ _),kY ho.rising,fQ];unfold dB;rw[hsets,hvq,hva]
 rw[hsets,hvq,l0 ho hqn];cases he:cQ z q.name with
 | true =>
  simp only[↓reduceIte];unfold kH;rw[hsets,hvq,l0 ho hqn,he,if_pos rfl];rw[hsets,hvq]at hproof;rw[<- hproof]
 | false =>
 simp only[ay, ↓reduceIte];have hcl:nB v.apex v.sets v.q.name=cV z q.name:=by
  unfold nB cV;rw[hsets,hvq,hva];exact Bh ho hex _ _ hqn hu
 have hnd:cg v={v with cN:=mw (cV z q.name)}:=by
  unfold cg;rw[<- hcl,hsets,hvq,l0 ho hqn,he,if_neg (by simp)]
 rw[hnd];generalize hst:mw (cV z q.name)=w;have hu2:({v with cN:=w}:View).sets=z.sets:=hsets;cases hj:((cA ([42]::bd (cV z q.name))).2==0)with
 | false =>
  have hw:w=[]:=by rw[<- hst];exact wN _ (by simpa using hj)
  rw[if_pos (by simp)];have h1:pV {v with cN:=w}=false:=by
   unfold pV;rw[hw];have:=He ho v.q.type;rw[<- hsets]at this;exact decide_eq_false (by show ¬(atI v.sets ⟨[],v.q.type⟩>=0);omega)
  have h2:fK {v with cN:=w}=false:=by
   unfold fK;rw[hw];have:=He ho 3;rw[<- hsets]at this;rw[decide_eq_false (show ¬(atI v.sets ⟨[],3⟩>=0) by omega)];rfl
  have h3:jM {v with cN:=w}=false:=by unfold jM;rw[hw];rfl
  rw[h1,h2,h3];simp only[ay,if_false];have:jK {v with cN:=w}=⟨6,cj v.sets [] [dB v,eH v.sets v.q.name, -1],[]⟩:=by
   unfold jK;rw[if_pos hw];rfl
  rw[this,hsets];rw[hsets]at hproof;have hp3:cj z.sets [] [dB v,eH z.sets v.q.name, -1]=cj z.sets [] [dB v,eH z.sets v.q.name]:=by
   rw[Mh ho _ _ _ (by unfold dB;rw[hsets];exact cZ _ _) (dC _ _) (by omega),AJ ho _ _ (by unfold dB;rw[hsets];exact cZ _ _) (dC _ _)];unfold gp;rw[if_pos (by decide)]
  rw[hp3,hproof]
 | true =>
  rw[if_neg (by simp)];have hw:(cA ([42]::bd (cV z q.name))).1=w:=hst;have hwv:aj w=true:=by
   rw[<- hst];unfold mw;have hj0:(cA ([42]::bd (cV z q.name))).2=0:=by simpa using hj
   unfold cA at hj0 ⊢;split
   . rename_i h;exact(yA h).1
   . rename_i h;rw[if_neg h]at hj0;simp at hj0
  have hwne:=km hwv;rw[hw]
  (try dsimp only)
  have h1:pV {v with cN:=w}=decide (((bn [] z ⟨w,q.type⟩).length:Int)>0):=by
   unfold pV;rw[uq];show decide (atI v.sets ⟨w,v.q.type⟩>=0)=_;rw[hsets,hvq]
  have h2:fK {v with cN:=w}=(decide (((bn [] z ⟨w,3⟩).length:Int)>0)&&(q.type != 8)):=by
   unfold fK;rw[uq];show(decide (atI v.sets ⟨w,3⟩>=0)&&(v.q.type != 8))=_;rw[hsets,hvq]
  have h3:jM {v with cN:=w}=cQ z w:=by
   unfold jM;show(!(w==[])&&exB v.sets w)=_
   rw[hsets,l0 ho hwv];have:(w==[])=false:=by simpa using hwne
   rw[this];rfl
  rw[h1,h2,h3];cases hdw:decide (((bn [] z ⟨w,q.type⟩).length:Int)>0)with
  | true =>
   simp only[↓reduceIte];show((⟨2,bK (bn [] z ⟨w,q.type⟩) z q.name,[]⟩:Ans),(0:Int))=(⟨2,cj v.sets [] [atI v.sets ⟨w,v.q.type⟩,eH v.sets v.q.name],[]⟩,0)
   rw[hsets,hvq,AJ ho _ _ (cZ _ _) (dC _ _),kY ho.rising,fQ]
  | false =>
  simp only[ay, ↓reduceIte];cases haw:(decide (((bn [] z ⟨w,3⟩).length:Int)>0)&&(q.type != 8))with
  | true =>
   simp only[↓reduceIte];show((⟨3,bK (bn [] z ⟨w,3⟩) z q.name,[]⟩:Ans),(0:Int))=(⟨3,cj v.sets [] [atI v.sets ⟨w,3⟩,eH v.sets v.q.name],[]⟩,0)
   rw[hsets,hvq,AJ ho _ _ (cZ _ _) (dC _ _),kY ho.rising,fQ]
  | false =>
  simp only[ay, ↓reduceIte];have hp3:bK (bK (bn [] z ⟨z.apex,4⟩) z q.name) z w=cj v.sets [] [dB v,eH v.sets v.q.name,eH v.sets w]:=by
   rw[hsets,Mh ho _ _ _ (by unfold dB;rw[hsets];exact cZ _ _) (dC _ _) (dC _ _),kY ho.rising,kY ho.rising,fQ];unfold dB;rw[hsets,hvq,hva]
  cases hew:cQ z w with
  | true =>
   simp only[ay, ↓reduceIte];rw[hp3];unfold kQ;rw[h3,hew,if_pos rfl];rfl
  | false =>
   simp only[ay, ↓reduceIte];rw[hp3];show _=(jK {v with cN:=w},(0:Int))
   unfold jK;rw[if_neg hwne];rfl
theorem Cs(l:List Signed):∀(ps seen:List Int),(cj l seen ps).length<=ps.length
 | [],_=>by simp[cj]
 | p::t,seen=>by
  have:=Cs l t (seen++[p]);rw[cj];split
  . rw[List.length_cons];omega
  . rw[List.length_cons,List.length_cons];omega
theorem rM{l:List Signed}:∀{ps seen:List Int},(∀p∈ps,p<l.length)-> ∀s∈cj l seen ps,∃p∈ps,p ∉ seen/\0<=p/\l[p.toNat]? =some s
 | [],_,_,s,hs=>by simp[cj]at hs
 | p::t,seen,hp,s,hs=>by
  rw[cj]at hs;split at hs
  . obtain⟨q,h1,h2,h3⟩:=rM (fun q hq=>hp q (aW _ hq)) s hs;exact⟨q,aW _ h1,fun e=>h2 (List.mem_append.2 (.inl e)),h3⟩
  . rename_i hc;simp only[Bool.or_eq_true,decide_eq_true_eq,c8,not_or]at hc;have hlt:=hp p (List.mem_cons_self ..);obtain⟨x,hx⟩:∃x,l[p.toNat]? =some x:=⟨_,ai (by omega)⟩
    rw[hx]at hs;rcases List.mem_cons.1 hs with e | hs
    . have e:s=x:=e;subst e;exact⟨p,List.mem_cons_self .., hc.2,by omega,hx⟩
    . obtain⟨q,h1,h2,h3⟩:=rM (fun q hq=>hp q (aW _ hq)) s hs;exact⟨q,aW _ h1,fun e=>h2 (List.mem_append.2 (.inl e)),h3⟩
theorem vr(v:View):(cg v).sets=v.sets:=by unfold cg;split <;> rfl
theorem Dm{v:View}(hd:(jg v).length<=900):∃ps:List Int,(∀p∈ps,p<v.sets.length)/\ps.length<=1000/\(fp v).sets=cj v.sets [] ps:=by
 have e:=vr v;have hl:=pG v (jg v);unfold fp;split
 . rename_i h;refine⟨dY v,fun p hp=>tL hp,?_,?_⟩
   . unfold dY;simp;omega
   . unfold jz;rw[if_pos h]
 split
 . exact⟨_,by simp[cZ],by simp,rfl⟩
 split
 . exact⟨_,by simp[cZ],by simp,rfl⟩
 split
 . rename_i h;refine⟨[dB v,eH v.sets v.q.name],by simp[dB,cZ,dC],by simp,?_⟩;unfold kH;rw[if_pos h]
 split
 . refine⟨[_,_],?_,by simp,by unfold yd;rw[e]⟩;intro p hp;simp only[List.mem_cons,List.not_mem_nil,or_false]at hp;rcases hp with rfl | rfl
   . exact cZ _ _
   . exact dC _ _
 split
 . refine⟨[_,_],?_,by simp,by unfold mC;rw[e]⟩;intro p hp;simp only[List.mem_cons,List.not_mem_nil,or_false]at hp;rcases hp with rfl | rfl
   . exact cZ _ _
   . exact dC _ _
 split
 . rename_i h;refine⟨[_,_,_],?_,by simp,by unfold kQ;rw[if_pos h,e]⟩;intro p hp;simp only[List.mem_cons,List.not_mem_nil,or_false]at hp;rcases hp with rfl | rfl | rfl
   . unfold dB;rw[e];exact cZ _ _
   . exact dC _ _
   . exact dC _ _
 . refine⟨[_,_,_],?_,by simp,by unfold jK;rw[e]⟩;intro p hp;simp only[List.mem_cons,List.not_mem_nil,or_false]at hp;have hpos:(0:Int)<=v.sets.length:=by omega
   rcases hp with rfl | rfl | rfl
   . unfold dB;rw[e];exact cZ _ _
   . exact dC _ _
   . split
     . omega
     . exact dC _ _
theorem wU{z:aQ}(hf:eI z=true)(q:bg):∃ps:List Int,(∀p∈ps,p<z.sets.length)/\ps.length<=1000/\(bG z q).1.sets=cj z.sets [] ps:=by
 have none:∃ps:List Int,(∀p∈ps,p<z.sets.length)/\ps.length<=1000/\([]:List Signed)=cj z.sets [] ps:=⟨[],by simp,by simp,rfl⟩
 unfold bG;split
 . exact none
 split
 . exact none
 split
 . exact none
 . refine Dm (v:=ko z q _ _) ?_;unfold jg;split
   . rename_i s hs;have:=((dH hf).2 s (aq hs)).1;omega
   . simp
theorem Mt{z:aQ}(hf:eI z=true)(q:bg):∀s∈(bG z q).1.sets,s∈z.sets:=by
 obtain⟨ps,h1,_,h3⟩:=wU hf q;rw[h3];intro s hs;obtain⟨p,_,_,_,h⟩:=rM h1 s hs;exact aq h
theorem Ek{z:aQ}(hf:eI z=true)(q:bg):(bG z q).1.sets.length<=1000:=by
 obtain⟨ps,h1,h2,h3⟩:=wU hf q;rw[h3];have:=Cs z.sets ps [];omega
structure Use(z:aQ)(q:bg):Prop where
 few:eI z=true
 val:bE z=true
 quest:bZ q=true
 under:aG q.name z.apex=true
theorem Use.name{z:aQ}{q:bg}(u:Use z q):aj q.name=true:=by have:=u.quest;unfold bZ at this;simp only[aP]at this;exact this.1.1
theorem Use.ord{z:aQ}{q:bg}(u:Use z q):Ordered z:=bz u.val
def vw(z:aQ)(q:bg):View:=ko z q (bw z q.name) (!(bw z q.name==[]))
theorem Use.cut{z:aQ}{q:bg}(u:Use z q):dV z q.name=(bw z q.name, !(bw z q.name==[]),0):=Ew u.val u.name u.under
theorem Use.ans{z:aQ}{q:bg}(u:Use z q):bG z q=(fp (vw z q),0):=by
 have hq:=u.quest;unfold bZ at hq;simp only[aP,decide_eq_true_eq]at hq;unfold bG;rw[if_neg (by simp;omega),u.cut];rfl
theorem CY(z:aQ)(q:bg):eC (vw z q)=(!(bw z q.name==[])&& !((bw z q.name==q.name)&&fy q)):=by
 unfold eC sD fy vw ko;dsimp only;rw[Bool.beq_comm (a:=q.name) (b:=bw z q.name)];cases (bw z q.name==[]) <;> cases (bw z q.name==q.name) <;> simp
theorem Ha(v:View):(fp v).kind=if eC v=true then 4 else if uv v=true then 1 else if ny v=true then 3 else if exB v.sets v.q.name=true then 5
 else if pV (cg v)=true then 2 else if fK (cg v)=true then 3 else if jM (cg v)=true then 5 else 6:=by
 unfold fp;split
 . rename_i h;unfold jz;rw[if_pos h]
 split
 . rfl
 split
 . rfl
 split
 . rename_i h;unfold kH;rw[if_pos h]
 split
 . rfl
 split
 . rfl
 split
 . rename_i h;unfold kQ;rw[if_pos h]
 . rfl
theorem JQ{v:View}(h:eC v=false):(fp v).cut=[]:=by
 unfold fp;rw[if_neg (by simp[h])]
 repeat' split
 all_goals first | rfl | skip
 . unfold kH;split <;> rfl
 . unfold kQ;split <;> rfl
theorem Use.EO{z:aQ}{q:bg}(u:Use z q)(hr:eC (vw z q)=false):((bG z q).1.kind==4)=false/\(bG z q).1.cut=[]:=by
 rw[u.ans];refine⟨?_,JQ hr⟩;show((fp (vw z q)).kind==4)=false
 rw[Ha,hr];simp only[ay, ↓reduceIte]
 repeat' split
 all_goals rfl
theorem Use.Mj{z:aQ}{q:bg}(u:Use z q)(hr:eC (vw z q)=true):∃s0 R,s0∈z.sets/\s0.place=(bw z q.name,2)/\(bG z q).1=⟨4,s0::R,bw z q.name⟩ /\
 ∀s∈R,(s.set.type=6/\s.set.name=bw z q.name)\/(s.set.type=8/\s.set.name=bw z q.name)\/(s.set.type=1/\bx s.set.name (bw z q.name)=(true,0)/\s0.set.data.any (fun d=>d.text==s.set.name)=true):=by
 have hne:bw z q.name ≠ []:=by
  intro e;rw[CY,e]at hr;cases hr
 obtain⟨hcv,hcut⟩:=sK u.ord hne;have ho:=u.ord;obtain⟨k,s0,h1,h2,h3⟩:=oc hcut;have hm0:=aq h2;have hserv:dM (vw z q)=((k:Nat):Int):=h1;have hsd:jg (vw z q)=s0.set.data:=by
  unfold jg;rw[hserv];show(match z.sets[((k:Nat):Int).toNat]? with | some s=>s.set.data | none=>[])=_
  rw[show((k:Nat):Int).toNat=k by simp,h2]
 have hlt:∀p∈dY (vw z q),p<z.sets.length:=fun p hp=>tL (v:=vw z q) hp
 have e1:cj z.sets [] (dY (vw z q))=s0::cj z.sets [dM (vw z q)] (iq (vw z q)::dQ (vw z q) (jg (vw z q))):=by
  unfold dY;rw[show[dM (vw z q),iq (vw z q)]++dQ (vw z q) (jg (vw z q))=dM (vw z q)::(iq (vw z q)::dQ (vw z q) (jg (vw z q)))from rfl,cj,if_neg (by rw[hserv];simp)];rw[hserv];simp[h2]
 refine⟨s0,cj z.sets [dM (vw z q)] (iq (vw z q)::dQ (vw z q) (jg (vw z q))),hm0,h3,?_,fun s hs=>?_⟩
 . rw[u.ans];show fp (vw z q)=_
   unfold fp;rw[if_pos hr];unfold jz;rw[if_pos hr];show(⟨4,cj z.sets [] (dY (vw z q)),bw z q.name⟩:Ans)=_
   rw[e1]
 . obtain⟨p,hp1,hp2,hp3,hp4⟩:=rM (fun p hp=>hlt p (by unfold dY;exact aW _ hp)) s hs;have hsm:=aq hp4;have atp:∀q' :bg,p=atI z.sets q' ->s.place=q'.place:=fun q' e=>by
    have hh:cd z.sets q' =true:=by
     have:=jD z.sets q';cases hc:cd z.sets q' with
     | true=>rfl
     | false=>rw[hc]at this;simp at this;omega
    obtain⟨j,t,a1,a2,a3⟩:=oc hh;rw[a1]at e;have:p.toNat=j:=by omega
    rw[this,a2]at hp4;cases hp4;exact a3
   rcases List.mem_cons.1 hp1 with hp | hp
   . unfold iq at hp;split at hp
     . have:=atp ⟨bw z q.name,8⟩ hp;exact .inr (.inl ⟨congrArg Prod.snd this,congrArg Prod.fst this⟩)
     . have:=atp ⟨bw z q.name,6⟩ hp;exact .inl ⟨congrArg Prod.snd this,congrArg Prod.fst this⟩
   . unfold dQ at hp;obtain⟨d,hd,hx⟩:=List.mem_flatMap.1 hp;split at hx
     . rename_i hu;simp at hx;have:=atp ⟨d.text,1⟩ hx;have hn:s.set.name=d.text:=congrArg Prod.fst this;refine .inr (.inr ⟨congrArg Prod.snd this,?_,?_⟩)
       . have hv:=ho.name s hsm;have hu' :(bx d.text (bw z q.name)).1=true:=hu;rw[<- hn]at hu';unfold bx at hu' ⊢;rw[if_pos ⟨hv,hcv⟩]at hu' ⊢;simp only at hu';rw[hu']
       . rw[hsd]at hd;exact List.any_eq_true.2 ⟨d,hd,by rw[hn];simp⟩
     . cases hx
end NP
