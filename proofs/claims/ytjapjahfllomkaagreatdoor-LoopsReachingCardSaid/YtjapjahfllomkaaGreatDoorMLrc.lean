/-
  Texts of the proof, merged in build order.
-/
import Derived.Test.YtjapjahfllomkaaGreatDoorAbM
import Derived.Test.YtjapjahfllomkaaGreatDoorLrbM
import Derived.Test.YtjapjahfllomkaaGreatDoorMLcv
import Derived.Test.YtjapjahfllomkaaGreatDoorMVa
set_option linter.all false
set_option maxRecDepth 100000
namespace NP
open NQ Go
def qJ(l:List Signed):List Datum:=match l[0]? with | some s=>s.set.data | none=>[]
def ji(z:aS)(cut:Bs)(l:List Signed)(h:List Datum):List Signed:=h.foldl (fun l d=>if aM d.text cut=true then bo l z ⟨d.text,1⟩else l) l
def rl0(z:aS)(cut:Bs):List Signed:=bo [] z ⟨cut,2⟩
def rl1(z:aS)(cut:Bs):List Signed:=bo (rl0 z cut) z ⟨cut,6⟩
def rl2(z:aS)(cut:Bs):List Signed:=if (((rl1 z cut).length:Int)==((rl0 z cut).length:Int))=true then bo (rl1 z cut) z ⟨cut,8⟩else rl1 z cut
def kT(z:aS)(cut:Bs):Ans:=⟨4,ji z cut (rl2 z cut) (qJ (rl0 z cut)),cut⟩
theorem xR(z:aS)(cut:Bs)(l:List Signed)(h:List Datum)(d:Datum):ji z cut l (h++[d])=if aM d.text cut=true then bo (ji z cut l h) z ⟨d.text,1⟩else ji z cut l h:=by
 unfold ji;rw[List.foldl_append];rfl
theorem tQ(z:aS)(cut:Bs):∀(h:List Datum) (l:List Signed),(ji z cut l h).length<=l.length+h.length
 | [],l=>by simp[ji]
 | d::h,l=>by
  have e:ji z cut l (d::h)=ji z cut (if aM d.text cut=true then bo l z ⟨d.text,1⟩else l) h:=rfl;rw[e];have:=tQ z cut h (if aM d.text cut=true then bo l z ⟨d.text,1⟩else l);have h2:=iX l z ⟨d.text,1⟩;rw[List.length_cons];split at this <;> rename_i hc <;> simp only[hc,if_true,if_false,aB] <;> omega
theorem zY{s:gi}(h:ed s=true)(ht:s.type=2):∀d∈s.data,an d.text=true:=fun d hd=>by
 unfold ed at h;simp only[aR,aA,List.mem_range]at h;obtain⟨i,hi⟩:=cd hd;have hlt:=(av.1 hi).1;have:=h.2 i hlt;obtain⟨p,hp⟩:∃p,s.data[i-1]? =some p:=⟨_,ah (by omega)⟩
 rw[v8 hi hp,ht]at this;have hr:fm 2=⟨1,0,0,0,0,false,false,false⟩:=rfl;rw[hr]at this;simp only[nL,fH,ky,Bool.not_eq_true',Bool.or_eq_false_iff,Bool.not_eq_false',aR,if_true]at this;exact this.1.2.1
theorem E7{z:aS}(ho:Ordered z)(hf:eH z=true):∀s∈z.sets,s.set.data.length<=900/\(s.set.type=2-> ∀d∈s.set.data,an d.text=true):=fun s hs =>
 ⟨by have:=((dG hf).2 s hs).1;omega,fun ht=>zY (ho.set s hs) ht⟩
theorem sP{z:aS}{n:Bs}(ho:Ordered z)(h:bx z n ≠ []):an (bx z n)=true/\cj z.sets ⟨bx z n,2⟩=true:=by
 unfold bx at h ⊢;cases hf:(cG z.apex z.sets).find? fun c=>aM n c with
 | none=>rw[hf]at h;exact absurd rfl h
 | some c =>
  have hm:=List.mem_of_find?_eq_some hf;obtain⟨_,_,h3,_,h5⟩:=Hy ho hm;exact⟨h3,h5⟩
theorem rD{z:aS}{q:bg}(h:cj z.sets q=true):cS z q.name=true:=by
 obtain⟨s,hs,hp⟩:=mU.1 h;have:s.set.name=q.name:=congrArg Prod.fst hp;exact List.any_eq_true.2 ⟨s,hs,by rw[this];exact fF _⟩
theorem FE(l:List Signed)(z:aS)(n:Bs):(bK l z n).length<=l.length+1:=by
 unfold bK;split
 . exact iX _ _ _
 . omega
theorem sq{z:aS}{n:Bs}(hn:an n=true):an (cW z n)=true:=by
 unfold cW;generalize (bd n).length+1=f;induction f generalizing n with
 | zero=>exact hn
 | succ f ih =>
  rw[vV];split
  . exact hn
  . exact ih (eV hn)
theorem Hz{c:Bs}(h:(!(c==[]))=true):c ≠ []:=by intro e;rw[e]at h;cases h
theorem vO{z:aS}{q:bg}(h:cj z.sets q=true):∃s,s∈z.sets/\s.place=q.place/\bo [] z q=[s]:=by
 obtain⟨k,s,h1,h2,h3⟩:=oo h;refine⟨s,ar h2,h3,?_⟩;unfold bo;rw[h1,if_neg (by simp),if_neg (by simp[cj])];simp[h2]
theorem G7{z:aS}{q:bg}(h:cj z.sets q=false):bo [] z q=[]:=by
 unfold bo;rw[jJ,h];rfl
def fw(q:bg):Bool:=q.type==6||q.type==8
def lF(z:aS)(q:bg):Ans×Int :=
 if (!bE z|| !b9 q)=true then(lJ,1)else if (!aM q.name z.apex)=true then(⟨7,[],[]⟩,0)
 else if (!(bx z q.name==[])&&(!(bx z q.name==q.name)|| !fw q))=true then(kT z (bx z q.name),0)
 else if decide (((bo [] z q).length:Int)>0)=true then(⟨1,bo [] z q,[]⟩,0)
 else if (decide (((bo [] z ⟨q.name,3⟩).length:Int)>0)&&(q.type != 8))=true then(⟨3,bo [] z ⟨q.name,3⟩,[]⟩,0)
 else if cS z q.name=true then(⟨5,bK (bo [] z ⟨z.apex,4⟩) z q.name,[]⟩,0)
 else if (!((cC ([42]::bd (cW z q.name))).2==0))=true then(⟨6,bK (bo [] z ⟨z.apex,4⟩) z q.name,[]⟩,0)
 else let w:=(cC ([42]::bd (cW z q.name))).1
 if decide (((bo [] z ⟨w,q.type⟩).length:Int)>0)=true then(⟨2,bK (bo [] z ⟨w,q.type⟩) z q.name,[]⟩,0)
 else if (decide (((bo [] z ⟨w,3⟩).length:Int)>0)&&(q.type != 8))=true then(⟨3,bK (bo [] z ⟨w,3⟩) z q.name,[]⟩,0)
 else if cS z w=true then(⟨5,bK (bK (bo [] z ⟨z.apex,4⟩) z q.name) z w,[]⟩,0)
 else(⟨6,bK (bK (bo [] z ⟨z.apex,4⟩) z q.name) z w,[]⟩,0)
end NP
namespace Go.Proofs.YtjapjahfllomkaaGreatDoor
open NQ Go NP Go.RowKit
theorem Ja(z:aS)(cut:Bs)(hz:z.sets.length<=10000)(hc:an cut=true)(hcut:cj z.sets ⟨cut,2⟩=true)(hd:∀s∈z.sets,s.set.data.length<=900/\(s.set.type=2-> ∀d∈s.set.data,an d.text=true)) :
 NQ.Fn cx 143 [.agg (bq z), .str cut] (.agg ((dq (kT z cut)).map .d)) []:=by
 show NQ.Fn cxR _ _ _ _
 refine df (fun | 11=>[66666] | _=>[]) tyR B9 Tryz.func143 (by kernel_rfl) rfl (ai rfl) ?_
 conv=>whnf
 have addK:∀(l:List Signed) (fl:Bool) (n:Bs) (t:Int),l.length<=100000->FnR cxR 144 true 74 5 (l.map ay) fl [.agg (bq z), .str n, .int .i64 t] ((bo l z ⟨n,t⟩).map ay):=fun l fl n t hl=>iw (cx:=cx) (cx' :=cxR) rfl rfl (mM l fl z n t hl (by omega))
 obtain⟨s0,hs0,hp0,e0⟩:=vO hcut;have hr0:rl0 z cut=[s0]:=e0;have hdat:=(hd s0 hs0).1;have hdn:=(hd s0 hs0).2 (by have:=congrArg Prod.snd hp0;exact this);refine⟨_,addK [] false cut 2 (by simp),?_⟩
 conv=>whnf
 rw[e0];refine⟨by decide,by simp,?_⟩
 conv=>whnf
 refine⟨_,rfl,?_⟩
 conv=>whnf
 refine⟨_,addK [s0] _ cut 6 (by simp),?_⟩
 conv=>whnf
 have hr1:rl1 z cut=bo [s0] z ⟨cut,6⟩:=by unfold rl1;rw[hr0]
 have hl1:=iX [s0] z ⟨cut,6⟩;have hl2:=iX (bo [s0] z ⟨cut,6⟩) z ⟨cut,8⟩;have hlist:(((bo [s0] z ⟨cut,6⟩).map ay).length:Int)=((rl1 z cut).length:Int):=by rw[ao,hr1]
 have hlist0:(([s0].map ay).length:Int)=((rl0 z cut).length:Int):=by rw[ao,hr0]
 rw[hlist,hlist0];have hho:qJ (rl0 z cut)=s0.set.data:=by unfold qJ;rw[hr0];rfl
 have h2len:(rl2 z cut).length<=3:=by
  unfold rl2;rw[hr1];have h1' :[s0].length=1:=rfl;split <;> omega
 refine ae (fun heq=>?_) (fun heq=>?_) <;> (rw[heq];conv=>whnf)
 . have hr2:rl2 z cut=bo (bo [s0] z ⟨cut,6⟩) z ⟨cut,8⟩:=by unfold rl2;rw[if_pos heq,hr1]
   refine⟨_,addK (bo [s0] z ⟨cut,6⟩) _ cut 8 (by simp at hl1;omega),?_⟩
   conv=>whnf
   (refine⟨Nat,fun k=>⟨[(1, .d (.str cut)),(2, .ptr 2 0),(4, .ptr 4 0),(5, .own 11),(6, .d (.slice 3 (s0.set.data.map cB))),(8, .d (.int .i64 k))],[(2, .box ((bq z).map .d)),(4, .box [.d (.int .i64 0), .nil 5, .d (.str [])]),(11, .row 74 5 ((ji z cut (rl2 z cut) (s0.set.data.take k)).map ay))]⟩,fun k=>k<=s0.set.data.length,fun k=>s0.set.data.length-k,⟨0,by omega,aj.keep ⟨⟨rfl,rfl⟩,⟨rfl,rfl⟩,⟨rfl,rfl⟩,⟨rfl,rfl⟩,⟨rfl,rfl⟩,⟨rfl,rfl⟩,trivial⟩ ⟨⟨rfl,rfl⟩,⟨rfl,rfl⟩,⟨by(rw[hr2];rfl),rfl⟩,trivial⟩⟩,fun k hk=>?_⟩;(conv=>whnf);refine ae (fun h1=>?_) (fun h1=>?_) <;> (rw[h1];conv=>whnf))
   . have hlt:k<s0.set.data.length:=by simp at h1;omega
     obtain⟨d,hdk⟩:∃d,s0.set.data[k]? =some d:=⟨_,ah hlt⟩
     have hdv:=hdn d (ar hdk);have hsn:=xR z cut (rl2 z cut) (s0.set.data.take k) d;rw[<- bn hdk]at hsn;have hrl:=tQ z cut (s0.set.data.take k) (rl2 z cut);rw[List.length_take]at hrl;refine⟨az k,cB d,aT hdk,?_⟩
     conv=>whnf
     (refine⟨_,_,lj d.text cut (bD hdv) (bD hc),?_⟩;conv=>whnf)
     refine ae (fun hu=>?_) (fun hu=>?_) <;> (rw[hu];conv=>whnf)
     . rw[if_pos hu]at hsn
       (refine⟨(by kernel_rfl:ie _=true),?_⟩;conv=>whnf)
       refine⟨az k,cB d,aT hdk,?_⟩
       conv=>whnf
       refine⟨_,addK _ _ d.text 1 (by omega),?_⟩
       conv=>whnf
       (repeat (refine⟨by kernel_rfl,?_⟩));conv=>whnf
       exact⟨k+1,hlt,by(show s0.set.data.length-(k+1)<s0.set.data.length-k;omega),aj.keep ⟨⟨rfl,rfl⟩,⟨rfl,rfl⟩,⟨rfl,rfl⟩,⟨rfl,rfl⟩,⟨rfl,rfl⟩,⟨aq (by omega),rfl⟩,trivial⟩ ⟨⟨rfl,rfl⟩,⟨rfl,rfl⟩,⟨by(rw[hsn];rfl),rfl⟩,trivial⟩⟩
     . rw[if_neg (by simp[hu])]at hsn;exact⟨k+1,hlt,by(show s0.set.data.length-(k+1)<s0.set.data.length-k;omega),aj.keep ⟨⟨rfl,rfl⟩,⟨rfl,rfl⟩,⟨rfl,rfl⟩,⟨rfl,rfl⟩,⟨rfl,rfl⟩,⟨aq (by omega),rfl⟩,trivial⟩ ⟨⟨rfl,rfl⟩,⟨rfl,rfl⟩,⟨by(rw[hsn];rfl),rfl⟩,trivial⟩⟩
   . obtain rfl:k=s0.set.data.length:=by simp at h1;omega
     refine af rfl ?_;unfold kT;rw[hho,List.take_length];rfl
 . have hr2:rl2 z cut=bo [s0] z ⟨cut,6⟩:=by unfold rl2;rw[if_neg (by simp[heq]),hr1]
   (refine⟨Nat,fun k=>⟨[(1, .d (.str cut)),(2, .ptr 2 0),(4, .ptr 4 0),(5, .own 11),(6, .d (.slice 3 (s0.set.data.map cB))),(8, .d (.int .i64 k))],[(2, .box ((bq z).map .d)),(4, .box [.d (.int .i64 0), .nil 5, .d (.str [])]),(11, .row 74 5 ((ji z cut (rl2 z cut) (s0.set.data.take k)).map ay))]⟩,fun k=>k<=s0.set.data.length,fun k=>s0.set.data.length-k,⟨0,by omega,aj.keep ⟨⟨rfl,rfl⟩,⟨rfl,rfl⟩,⟨rfl,rfl⟩,⟨rfl,rfl⟩,⟨rfl,rfl⟩,⟨rfl,rfl⟩,trivial⟩ ⟨⟨rfl,rfl⟩,⟨rfl,rfl⟩,⟨by(rw[hr2];rfl),rfl⟩,trivial⟩⟩,fun k hk=>?_⟩;(conv=>whnf);refine ae (fun h1=>?_) (fun h1=>?_) <;> (rw[h1];conv=>whnf))
   . have hlt:k<s0.set.data.length:=by simp at h1;omega
     obtain⟨d,hdk⟩:∃d,s0.set.data[k]? =some d:=⟨_,ah hlt⟩
     have hdv:=hdn d (ar hdk);have hsn:=xR z cut (rl2 z cut) (s0.set.data.take k) d;rw[<- bn hdk]at hsn;have hrl:=tQ z cut (s0.set.data.take k) (rl2 z cut);rw[List.length_take]at hrl;refine⟨az k,cB d,aT hdk,?_⟩
     conv=>whnf
     (refine⟨_,_,lj d.text cut (bD hdv) (bD hc),?_⟩;conv=>whnf)
     refine ae (fun hu=>?_) (fun hu=>?_) <;> (rw[hu];conv=>whnf)
     . rw[if_pos hu]at hsn
       (refine⟨(by kernel_rfl:ie _=true),?_⟩;conv=>whnf)
       refine⟨az k,cB d,aT hdk,?_⟩
       conv=>whnf
       refine⟨_,addK _ _ d.text 1 (by omega),?_⟩
       conv=>whnf
       (repeat (refine⟨by kernel_rfl,?_⟩));conv=>whnf
       exact⟨k+1,hlt,by(show s0.set.data.length-(k+1)<s0.set.data.length-k;omega),aj.keep ⟨⟨rfl,rfl⟩,⟨rfl,rfl⟩,⟨rfl,rfl⟩,⟨rfl,rfl⟩,⟨rfl,rfl⟩,⟨aq (by omega),rfl⟩,trivial⟩ ⟨⟨rfl,rfl⟩,⟨rfl,rfl⟩,⟨by(rw[hsn];rfl),rfl⟩,trivial⟩⟩
     . rw[if_neg (by simp[hu])]at hsn;exact⟨k+1,hlt,by(show s0.set.data.length-(k+1)<s0.set.data.length-k;omega),aj.keep ⟨⟨rfl,rfl⟩,⟨rfl,rfl⟩,⟨rfl,rfl⟩,⟨rfl,rfl⟩,⟨rfl,rfl⟩,⟨aq (by omega),rfl⟩,trivial⟩ ⟨⟨rfl,rfl⟩,⟨rfl,rfl⟩,⟨by(rw[hsn];rfl),rfl⟩,trivial⟩⟩
   . obtain rfl:k=s0.set.data.length:=by simp at h1;omega
     refine af rfl ?_;unfold kT;rw[hho,List.take_length];rfl
def fzR:Nat->List Nat
 | 11=>[55555]
 | 14=>[55555]
 | 17=>[66666,55555]
 | 18=>[55555]
 | 20=>[55555]
 | 23=>[55555]
 | 26=>[55555]
 | 29=>[55555]
 | _=>[]
def stR(z:aS)(q:bg):St:=⟨[(2, .ptr 2 0),(3, .ptr 3 0),(4, .ptr 4 0)],[(2, .box ((bq z).map .d)),(3, .box ((cU q).map .d)),(4, .box [.d (.int .i64 0), .nil 5, .d (.str [])])]⟩
def CE(z:aS)(q:bg)(w:Bs)(proof:List Signed):St:=⟨[(2, .ptr 2 0),(3, .ptr 3 0),(4, .ptr 4 0),(11, .own 87),(12, .d (.str w))],[(2, .box ((bq z).map .d)),(3, .box ((cU q).map .d)),(4, .box [.d (.int .i64 0), .nil 5, .d (.str [])]),(87, .row 74 5 (proof.map ay))]⟩
def On(z:aS)(q:bg)(proof:List Signed):St:=⟨[(2, .ptr 2 0),(3, .ptr 3 0),(4, .ptr 4 0),(11, .own 87)],[(2, .box ((bq z).map .d)),(3, .box ((cU q).map .d)),(4, .box [.d (.int .i64 0), .nil 5, .d (.str [])]),(87, .row 74 5 (proof.map ay))]⟩
theorem sx(z:aS)(q:bg)(hf:eH z=true)(hv:bE z=true)(hq:b9 q=true)(w:Bs)(hwv:an w=true)(proof:List Signed)(hpl:proof.length<=1000)(r:Ans×Int)(hr:(if cS z w=true then((⟨5,bK proof z w,[]⟩:Ans),(0:Int))else(⟨6,bK proof z w,[]⟩,0))=r)(st:St)(hw:aj cxR st (CE z q w proof)) :
 vc cxR Tryz.f78.ntmps fzR (ny 20 ((Tryz.f78.body).getD .skip)) (fnQ cxR Tryz.f78.results.toList (.tuple [.agg ((dq r.1).map .d), .d (.int .i64 r.2)]) []) st:=by
 obtain⟨f1,f2⟩:=dG hf;have hz5:z.sets.length<=100000:=by omega
 have addK:∀(l:List Signed) (fl:Bool) (n:Bs) (t:Int),l.length<=100000->FnR cxR 144 true 74 5 (l.map ay) fl [.agg (bq z), .str n, .int .i64 t] ((bo l z ⟨n,t⟩).map ay):=fun l fl n t hl=>iw (cx:=cx) (cx' :=cxR) rfl rfl (mM l fl z n t hl hz5)
 have lenE:∀n t,(((bo [] z ⟨n,t⟩).map ay).length:Int)=((bo [] z ⟨n,t⟩).length:Int):=fun n t=>by rw[ao]
 have len1:∀n t,(bo [] z ⟨n,t⟩).length<=100:=fun n t=>by have:=iX [] z ⟨n,t⟩;simp at this;omega
 have ho:=bu hv;have hqn:an q.name=true:=by unfold b9 at hq;simp only[aR]at hq;exact hq.1.1
 have covK:∀(l:List Signed) (fl:Bool) (n:Bs),l.length<=100000->an n=true->FnR cxR 145 true 74 5 (l.map ay) fl [.agg (bq z), .str n] ((bK l z n).map ay):=fun l fl n hl hn=>iw (cx:=cx) (cx' :=cxR) rfl rfl (nJ l fl z n hl hz5 ho.name hn)
 conv=>whnf
 refine⟨CE z q w proof,hw,?_⟩
 conv=>whnf
 refine⟨_,covK proof _ w (by omega) hwv,?_⟩
 conv=>whnf
 (refine⟨_,_,rB z w hz5 ho.name hwv,?_⟩;conv=>whnf)
 refine ae (fun hew=>?_) (fun hew=>?_) <;> (rw[hew];conv=>whnf)
 . rw[if_pos hew]at hr;subst hr;exact af rfl rfl
 . rw[if_neg (by rw[hew];simp)]at hr;subst hr;exact af rfl rfl
theorem Ay(z : aS)(q : bg)(hf : eH z = true)(hv : bE z = true)(hq : b9 q = true)(w : Bs)(hwv : an w = true)(proof : List Signed)(hpl : proof.length <= 1000)(r : Ans × Int)(hr : (if decide (((bo [] z ⟨w, q.type⟩).length : Int) > 0) = true then ((⟨2, bK (bo [] z ⟨w, q.type⟩) z q.name, []⟩ : Ans), (0 : Int))
      else if (decide (((bo [] z ⟨w,3⟩).length:Int)>0)&&(q.type != 8))=true then(⟨3,bK (bo [] z ⟨w,3⟩) z q.name,[]⟩,0)
      else if cS z w=true then(⟨5,bK proof z w,[]⟩,0)else(⟨6,bK proof z w,[]⟩,0))=r) (st:St) (hw:aj cxR st (CE z q w proof)) :
 vc cxR Tryz.f78.ntmps fzR (ny 16 ((Tryz.f78.body).getD .skip)) (fnQ cxR Tryz.f78.results.toList (.tuple [.agg ((dq r.1).map .d), .d (.int .i64 r.2)]) []) st:=by
 obtain⟨f1,f2⟩:=dG hf;have hz5:z.sets.length<=100000:=by omega
 have addK:∀(l:List Signed) (fl:Bool) (n:Bs) (t:Int),l.length<=100000->FnR cxR 144 true 74 5 (l.map ay) fl [.agg (bq z), .str n, .int .i64 t] ((bo l z ⟨n,t⟩).map ay):=fun l fl n t hl=>iw (cx:=cx) (cx' :=cxR) rfl rfl (mM l fl z n t hl hz5)
 have lenE:∀n t,(((bo [] z ⟨n,t⟩).map ay).length:Int)=((bo [] z ⟨n,t⟩).length:Int):=fun n t=>by rw[ao]
 have len1:∀n t,(bo [] z ⟨n,t⟩).length<=100:=fun n t=>by have:=iX [] z ⟨n,t⟩;simp at this;omega
 have ho:=bu hv;have hqn:an q.name=true:=by unfold b9 at hq;simp only[aR]at hq;exact hq.1.1
 have covK:∀(l:List Signed) (fl:Bool) (n:Bs),l.length<=100000->an n=true->FnR cxR 145 true 74 5 (l.map ay) fl [.agg (bq z), .str n] ((bK l z n).map ay):=fun l fl n hl hn=>iw (cx:=cx) (cx' :=cxR) rfl rfl (nJ l fl z n hl hz5 ho.name hn)
 conv=>whnf
 refine⟨CE z q w proof,hw,?_⟩
 conv=>whnf
 refine⟨_,addK [] false w q.type (by simp),?_⟩
 conv=>whnf
 rw[lenE];refine ae (fun hdw=>?_) (fun hdw=>?_) <;> (rw[hdw];conv=>whnf)
 . rw[if_pos hdw]at hr;subst hr;refine⟨_,covK (bo [] z ⟨w,q.type⟩) _ q.name (by have:=len1 w q.type;omega) hqn,?_⟩
   conv=>whnf
   exact af rfl rfl
 rw[if_neg (by rw[hdw];simp)]at hr;refine⟨CE z q w proof,aj.keep ⟨⟨rfl,rfl⟩,⟨rfl,rfl⟩,⟨rfl,rfl⟩,⟨rfl,rfl⟩,⟨rfl,rfl⟩,trivial⟩ ⟨⟨rfl,rfl⟩,⟨rfl,rfl⟩,⟨rfl,rfl⟩,⟨rfl,rfl⟩,trivial⟩,?_⟩
 conv=>whnf
 refine⟨_,addK [] false w 3 (by simp),?_⟩
 conv=>whnf
 rw[lenE];refine ae (fun haw=>?_) (fun haw=>?_) <;> (rw[haw];conv=>whnf)
 . refine ae (fun h8w=>?_) (fun h8w=>?_) <;> (rw[h8w];conv=>whnf)
   . rw[if_pos (by rw[haw,h8w];rfl)]at hr;subst hr;refine⟨_,covK (bo [] z ⟨w,3⟩) _ q.name (by have:=len1 w 3;omega) hqn,?_⟩
     conv=>whnf
     exact af rfl rfl
   . rw[if_neg (by rw[haw,h8w];simp)]at hr;exact sx z q hf hv hq w hwv proof hpl r hr _ (aj.keep ⟨⟨rfl,rfl⟩,⟨rfl,rfl⟩,⟨rfl,rfl⟩,⟨rfl,rfl⟩,⟨rfl,rfl⟩,trivial⟩ ⟨⟨rfl,rfl⟩,⟨rfl,rfl⟩,⟨rfl,rfl⟩,⟨rfl,rfl⟩,trivial⟩)
 . rw[if_neg (by rw[haw];simp)]at hr;exact sx z q hf hv hq w hwv proof hpl r hr _ (aj.keep ⟨⟨rfl,rfl⟩,⟨rfl,rfl⟩,⟨rfl,rfl⟩,⟨rfl,rfl⟩,⟨rfl,rfl⟩,trivial⟩ ⟨⟨rfl,rfl⟩,⟨rfl,rfl⟩,⟨rfl,rfl⟩,⟨rfl,rfl⟩,trivial⟩)
set_option maxHeartbeats 1000000 in
theorem sw(z : aS)(q : bg)(hf : eH z = true)(hv : bE z = true)(hq : b9 q = true)(hu : aM q.name z.apex = true)(r : Ans × Int)(hr : (if cS z q.name = true then ((⟨5, bK (bo [] z ⟨z.apex, 4⟩) z q.name, []⟩ : Ans), (0 : Int))
      else if (!((cC ([42]::bd (cW z q.name))).2==0))=true then(⟨6,bK (bo [] z ⟨z.apex,4⟩) z q.name,[]⟩,0)
      else let w:=(cC ([42]::bd (cW z q.name))).1
      if decide (((bo [] z ⟨w,q.type⟩).length:Int)>0)=true then(⟨2,bK (bo [] z ⟨w,q.type⟩) z q.name,[]⟩,0)
      else if (decide (((bo [] z ⟨w,3⟩).length:Int)>0)&&(q.type != 8))=true then(⟨3,bK (bo [] z ⟨w,3⟩) z q.name,[]⟩,0)
      else if cS z w=true then(⟨5,bK (bK (bo [] z ⟨z.apex,4⟩) z q.name) z w,[]⟩,0)
      else(⟨6,bK (bK (bo [] z ⟨z.apex,4⟩) z q.name) z w,[]⟩,0))=r) (st:St) (hw:aj cxR st (stR z q)) :
 vc cxR Tryz.f78.ntmps fzR (ny 12 ((Tryz.f78.body).getD .skip)) (fnQ cxR Tryz.f78.results.toList (.tuple [.agg ((dq r.1).map .d), .d (.int .i64 r.2)]) []) st:=by
 obtain⟨f1,f2⟩:=dG hf;have hz5:z.sets.length<=100000:=by omega
 have addK:∀(l:List Signed) (fl:Bool) (n:Bs) (t:Int),l.length<=100000->FnR cxR 144 true 74 5 (l.map ay) fl [.agg (bq z), .str n, .int .i64 t] ((bo l z ⟨n,t⟩).map ay):=fun l fl n t hl=>iw (cx:=cx) (cx' :=cxR) rfl rfl (mM l fl z n t hl hz5)
 have lenE:∀n t,(((bo [] z ⟨n,t⟩).map ay).length:Int)=((bo [] z ⟨n,t⟩).length:Int):=fun n t=>by rw[ao]
 have len1:∀n t,(bo [] z ⟨n,t⟩).length<=100:=fun n t=>by have:=iX [] z ⟨n,t⟩;simp at this;omega
 have ho:=bu hv;have hqn:an q.name=true:=by unfold b9 at hq;simp only[aR]at hq;exact hq.1.1
 have covK:∀(l:List Signed) (fl:Bool) (n:Bs),l.length<=100000->an n=true->FnR cxR 145 true 74 5 (l.map ay) fl [.agg (bq z), .str n] ((bK l z n).map ay):=fun l fl n hl hn=>iw (cx:=cx) (cx' :=cxR) rfl rfl (nJ l fl z n hl hz5 ho.name hn)
 have hval:=qX.1 hv;have hex:cS z z.apex=true:=rD hval.start;have hcl:an (cW z q.name)=true:=sq hqn
 conv=>whnf
 refine⟨stR z q,hw,?_⟩
 conv=>whnf
 (refine⟨(by kernel_rfl:ie _=true),?_⟩;conv=>whnf)
 refine⟨_,addK [] false z.apex 4 (by simp),?_⟩
 conv=>whnf
 (repeat (refine⟨by kernel_rfl,?_⟩));conv=>whnf
 refine⟨_,covK (bo [] z ⟨z.apex,4⟩) _ q.name (by have:=len1 z.apex 4;omega) hqn,?_⟩
 conv=>whnf
 (repeat (refine⟨by kernel_rfl,?_⟩));conv=>whnf
 refine⟨On z q (bK (bo [] z ⟨z.apex,4⟩) z q.name),aj.keep ⟨⟨rfl,rfl⟩,⟨rfl,rfl⟩,⟨rfl,rfl⟩,⟨rfl,rfl⟩,trivial⟩ ⟨⟨rfl,rfl⟩,⟨rfl,rfl⟩,⟨rfl,rfl⟩,⟨rfl,rfl⟩,trivial⟩,?_⟩
 conv=>whnf
 (refine⟨_,_,rB z q.name hz5 ho.name hqn,?_⟩;conv=>whnf)
 refine ae (fun he=>?_) (fun he=>?_) <;> (rw[he];conv=>whnf)
 . rw[if_pos he]at hr;subst hr;exact af rfl rfl
 rw[if_neg (by rw[he];simp)]at hr;refine⟨On z q (bK (bo [] z ⟨z.apex,4⟩) z q.name),aj.keep ⟨⟨rfl,rfl⟩,⟨rfl,rfl⟩,⟨rfl,rfl⟩,⟨rfl,rfl⟩,trivial⟩ ⟨⟨rfl,rfl⟩,⟨rfl,rfl⟩,⟨rfl,rfl⟩,⟨rfl,rfl⟩,trivial⟩,?_⟩
 conv=>whnf
 (refine⟨_,_,FA z q.name hz5 ho.name hqn hu hex,?_⟩;conv=>whnf)
 (refine⟨_,_,El (cW z q.name) hcl,?_⟩;conv=>whnf)
 refine ae (fun hj=>?_) (fun hj=>?_) <;> (rw[hj];conv=>whnf)
 . rw[if_pos hj]at hr;subst hr;exact af rfl rfl
 rw[if_neg (by rw[hj];simp)]at hr;have hwv:an (cC ([42]::bd (cW z q.name))).1=true:=by
  have hj0:(cC ([42]::bd (cW z q.name))).2=0:=by simpa using hj
  unfold cC at hj0 ⊢;split
  . rename_i h;exact(yB h).1
  . rename_i h;rw[if_neg h]at hj0;simp at hj0
 have hcl2:=FE (bo [] z ⟨z.apex,4⟩) z q.name;have hl4:=len1 z.apex 4;exact Ay z q hf hv hq _ hwv _ (by omega) r hr _ (aj.keep ⟨⟨rfl,rfl⟩,⟨rfl,rfl⟩,⟨rfl,rfl⟩,⟨rfl,rfl⟩,⟨rfl,rfl⟩,trivial⟩ ⟨⟨rfl,rfl⟩,⟨rfl,rfl⟩,⟨rfl,rfl⟩,⟨rfl,rfl⟩,trivial⟩)
theorem Ct(z:aS)(q:bg)(hf:eH z=true)(hv:bE z=true)(hq:b9 q=true)(hu:aM q.name z.apex=true)(hno:(!(bx z q.name==[])&&(!(bx z q.name==q.name)|| !fw q))=false)(r:Ans×Int)(hr:lF z q=r)(st:St)(hw:aj cxR st (stR z q)) :
 vc cxR Tryz.f78.ntmps fzR (ny 8 ((Tryz.f78.body).getD .skip)) (fnQ cxR Tryz.f78.results.toList (.tuple [.agg ((dq r.1).map .d), .d (.int .i64 r.2)]) []) st:=by
 obtain⟨f1,f2⟩:=dG hf;have hz5:z.sets.length<=100000:=by omega
 have addK:∀(l:List Signed) (fl:Bool) (n:Bs) (t:Int),l.length<=100000->FnR cxR 144 true 74 5 (l.map ay) fl [.agg (bq z), .str n, .int .i64 t] ((bo l z ⟨n,t⟩).map ay):=fun l fl n t hl=>iw (cx:=cx) (cx' :=cxR) rfl rfl (mM l fl z n t hl hz5)
 have lenE:∀n t,(((bo [] z ⟨n,t⟩).map ay).length:Int)=((bo [] z ⟨n,t⟩).length:Int):=fun n t=>by rw[ao]
 have len1:∀n t,(bo [] z ⟨n,t⟩).length<=100:=fun n t=>by have:=iX [] z ⟨n,t⟩;simp at this;omega
 have ho:=bu hv;have hqn:an q.name=true:=by unfold b9 at hq;simp only[aR]at hq;exact hq.1.1
 have covK:∀(l:List Signed) (fl:Bool) (n:Bs),l.length<=100000->an n=true->FnR cxR 145 true 74 5 (l.map ay) fl [.agg (bq z), .str n] ((bK l z n).map ay):=fun l fl n hl hn=>iw (cx:=cx) (cx' :=cxR) rfl rfl (nJ l fl z n hl hz5 ho.name hn)
 have hvq:(!bE z|| !b9 q)=false:=by rw[hv,hq];rfl
 unfold lF at hr;rw[if_neg (by simp[hvq]),if_neg (by simp[hu]),if_neg (by rw[hno];simp)]at hr
 conv=>whnf
 refine⟨stR z q,hw,?_⟩
 conv=>whnf
 refine⟨_,addK [] false q.name q.type (by simp),?_⟩
 conv=>whnf
 rw[lenE];refine ae (fun hd=>?_) (fun hd=>?_) <;> (rw[hd];conv=>whnf)
 . rw[if_pos hd]at hr;subst hr;exact af rfl rfl
 rw[if_neg (by rw[hd];simp)]at hr;refine⟨stR z q,aj.keep ⟨⟨rfl,rfl⟩,⟨rfl,rfl⟩,⟨rfl,rfl⟩,trivial⟩ ⟨⟨rfl,rfl⟩,⟨rfl,rfl⟩,⟨rfl,rfl⟩,trivial⟩,?_⟩
 conv=>whnf
 refine⟨_,addK [] false q.name 3 (by simp),?_⟩
 conv=>whnf
 rw[lenE];refine ae (fun ha=>?_) (fun ha=>?_) <;> (rw[ha];conv=>whnf)
 . refine ae (fun h8=>?_) (fun h8=>?_) <;> (rw[h8];conv=>whnf)
   . rw[if_pos (by rw[ha,h8];rfl)]at hr;subst hr;exact af rfl rfl
   . rw[if_neg (by rw[ha,h8];simp)]at hr;exact sw z q hf hv hq hu r hr _ (aj.keep ⟨⟨rfl,rfl⟩,⟨rfl,rfl⟩,⟨rfl,rfl⟩,trivial⟩ ⟨⟨rfl,rfl⟩,⟨rfl,rfl⟩,⟨rfl,rfl⟩,trivial⟩)
 . rw[if_neg (by rw[ha];simp)]at hr;exact sw z q hf hv hq hu r hr _ (aj.keep ⟨⟨rfl,rfl⟩,⟨rfl,rfl⟩,⟨rfl,rfl⟩,trivial⟩ ⟨⟨rfl,rfl⟩,⟨rfl,rfl⟩,⟨rfl,rfl⟩,trivial⟩)
theorem Gv(z:aS)(q:bg)(hf:eH z=true):NQ.Fn cx 78 [.agg (bq z), .agg (cU q)] (.tuple [.agg ((dq (lF z q).1).map .d), .d (.int .i64 (lF z q).2)]) []:=by
 show NQ.Fn cxR _ _ _ _
 refine df fzR tyR B9 Tryz.func78 (by kernel_rfl) rfl (ai rfl) ?_
 conv=>whnf
 obtain⟨f1,f2⟩:=dG hf;have hz5:z.sets.length<=100000:=by omega
 have addK:∀(l:List Signed) (fl:Bool) (n:Bs) (t:Int),l.length<=100000->FnR cxR 144 true 74 5 (l.map ay) fl [.agg (bq z), .str n, .int .i64 t] ((bo l z ⟨n,t⟩).map ay):=fun l fl n t hl=>iw (cx:=cx) (cx' :=cxR) rfl rfl (mM l fl z n t hl hz5)
 have len1:∀n t,(bo [] z ⟨n,t⟩).length<=1:=fun n t=>iX [] z ⟨n,t⟩
 have lenE:∀n t,(((bo [] z ⟨n,t⟩).map ay).length:Int)=((bo [] z ⟨n,t⟩).length:Int):=fun n t=>by rw[ao]
 (refine⟨_,_,zV z hz5,?_⟩;conv=>whnf)
 (refine⟨_,_,I9 q,?_⟩;conv=>whnf)
 have bad:(!bE z|| !b9 q)=true->lF z q=(lJ,1):=fun h=>by unfold lF;rw[if_pos h]
 refine ae (fun hv=>?_) (fun hv=>?_) <;> (rw[hv];conv=>whnf)
 . exact af rfl (by rw[bad (by rw[hv];rfl)];rfl)
 refine ae (fun hq=>?_) (fun hq=>?_) <;> (rw[hq];conv=>whnf)
 . exact af rfl (by rw[bad (by rw[hq];simp)];rfl)
 have hvq:(!bE z|| !b9 q)=false:=by rw[hv,hq];rfl
 have hv:bE z=true:=by simpa using hv
 have hq:b9 q=true:=by simpa using hq
 have ho:=bu hv;have hqn:an q.name=true:=by unfold b9 at hq;simp only[aR]at hq;exact hq.1.1
 have covK:∀(l:List Signed) (fl:Bool) (n:Bs),l.length<=100000->an n=true->FnR cxR 145 true 74 5 (l.map ay) fl [.agg (bq z), .str n] ((bK l z n).map ay):=fun l fl n hl hn=>iw (cx:=cx) (cx' :=cxR) rfl rfl (nJ l fl z n hl hz5 ho.name hn)
 (refine⟨_,_,lj q.name z.apex (bD hqn) (bD ho.apex),?_⟩;conv=>whnf)
 refine ae (fun hu=>?_) (fun hu=>?_) <;> (rw[hu];conv=>whnf)
 . exact af rfl (by unfold lF;rw[if_neg (by simp[hvq]),if_pos hu];rfl)
 have hun:(!aM q.name z.apex)=false:=hu;have hu:aM q.name z.apex=true:=by simpa using hu
 (refine⟨_,_,Kk z q.name hz5 ho.name hqn,?_⟩;conv=>whnf)
 have base : lF z q = if (!(bx z q.name == []) && (!(bx z q.name == q.name) || !fw q)) = true then (kT z (bx z q.name), 0)
     else if decide (((bo [] z q).length:Int)>0)=true then(⟨1,bo [] z q,[]⟩,0)
     else if (decide (((bo [] z ⟨q.name,3⟩).length:Int)>0)&&(q.type != 8))=true then(⟨3,bo [] z ⟨q.name,3⟩,[]⟩,0)
     else if cS z q.name=true then(⟨5,bK (bo [] z ⟨z.apex,4⟩) z q.name,[]⟩,0)
     else if (!((cC ([42]::bd (cW z q.name))).2==0))=true then(⟨6,bK (bo [] z ⟨z.apex,4⟩) z q.name,[]⟩,0)
     else let w:=(cC ([42]::bd (cW z q.name))).1
     if decide (((bo [] z ⟨w,q.type⟩).length:Int)>0)=true then(⟨2,bK (bo [] z ⟨w,q.type⟩) z q.name,[]⟩,0)
     else if (decide (((bo [] z ⟨w,3⟩).length:Int)>0)&&(q.type != 8))=true then(⟨3,bK (bo [] z ⟨w,3⟩) z q.name,[]⟩,0)
     else if cS z w=true then(⟨5,bK (bK (bo [] z ⟨z.apex,4⟩) z q.name) z w,[]⟩,0)
     else(⟨6,bK (bK (bo [] z ⟨z.apex,4⟩) z q.name) z w,[]⟩,0):=by unfold lF;rw[if_neg (by simp[hvq]),if_neg (by simp[hun])]
 have ref:bx z q.name ≠ []->NQ.Fn cxR 143 [.agg (bq z), .str (bx z q.name)] (.agg ((dq (kT z (bx z q.name))).map .d)) []:=fun hne=>by
  obtain⟨c1,c2⟩:=sP ho hne;exact Ja z (bx z q.name) (by omega) c1 c2 (E7 ho hf)
 have done:∀(b:Bool),(!(bx z q.name==[])&&(!(bx z q.name==q.name)|| !fw q))=b->b=true->lF z q=(kT z (bx z q.name),0):=fun b h1 h2=>by rw[base,if_pos (by rw[h1,h2])]
 have hval:=qX.1 hv;have hex:cS z z.apex=true:=rD hval.start;have hcl:an (cW z q.name)=true:=sq hqn
 repeat' (first
  | (refine ae (fun h=>?_) (fun h=>?_) <;> (rw[h];conv=>whnf))
  | (refine ⟨_, _, ref (Hz (by assumption)), ?_⟩
     conv=>whnf
     have e0:(!(bx z q.name==[]))=true:=by assumption
     have e1:(!(bx z q.name==[])&&(!(bx z q.name==q.name)|| !fw q))=true:=by(unfold fw;simp only[*, if_true,if_false,aB,aK,aI,aJ,aO,aN,aC,aE,aH,aF,aG,aD])
     exact af rfl (by rw[done _ e1 rfl];rfl))
  | fail)
 all_goals
  have hno:(!(bx z q.name==[])&&(!(bx z q.name==q.name)|| !fw q))=false:=by
   unfold fw
   first
    | (have e0 : (!(bx z q.name == [])) = true := by assumption
       simp only[*, if_true,if_false,aB,aK,aI,aJ,aO,aN,aC,aE,aH,aF,aG,aD];done)
    | (have e0 : (!(bx z q.name == [])) = false := by assumption
       simp only[*, if_true,if_false,aB,aK,aI,aJ,aO,aN,aC,aE,aH,aF,aG,aD];done)
  exact Ct z q hf hv hq hu hno _ rfl _ (aj.keep ⟨⟨rfl,rfl⟩,⟨rfl,rfl⟩,⟨rfl,rfl⟩,trivial⟩ ⟨⟨rfl,rfl⟩,⟨rfl,rfl⟩,⟨rfl,rfl⟩,trivial⟩)
end Go.Proofs.YtjapjahfllomkaaGreatDoor
namespace NP
open NQ Go
def gu(sets:List Signed)(l:List Signed)(p:Int):List Signed :=
 if decide (p<0)=true then l else match sets[p.toNat]? with | some s=>if cj l (qOf s)=true then l else l++[s] | none=>l
def G5(sets l:List Signed)(seen:List Int):Prop:= ∀(k:Nat) s,sets[k]? =some s->cj l (qOf s)=seen.contains (k:Int)
theorem zN{sets:List Signed}(hr:RP sets){i j:Nat}{a b:Signed}(ha:sets[i]? =some a)(hb:sets[j]? =some b)(h:a.place=b.place):i=j:=by
 have hp:=List.pairwise_iff_getElem.1 hr;obtain⟨hi,e1⟩:=av.1 ha;obtain⟨hj,e2⟩:=av.1 hb;rcases Nat.lt_trichotomy i j with hlt | heq | hlt
 . exact absurd h (by have:=hp i j hi hj hlt;rw[e1,e2]at this;exact nK this)
 . exact heq
 . exact absurd h.symm (by have:=hp j i hj hi hlt;rw[e1,e2]at this;exact nK this)
theorem lM{sets:List Signed}(hr:RP sets):∀(ps:List Int) (l:List Signed) (seen:List Int),(∀p∈ps,p<sets.length)->G5 sets l seen->ps.foldl (gu sets) l=l++cn sets seen ps
 | [],l,seen,_,_=>by simp[cn]
 | p::ps,l,seen,hp,hs=>by
  have hps:∀q∈ps,q<sets.length:=fun q hq=>hp q (aW _ hq)
  rw[List.foldl_cons,cn];by_cases hneg:p<0
  . have e:gu sets l p=l:=by unfold gu;rw[if_pos (by simpa using hneg)]
    rw[e,if_pos (by simp[hneg])];refine lM hr ps l _ hps fun k s hk=>?_
    rw[hs k s hk,Bool.eq_iff_iff,cr,cr,List.mem_append];refine⟨.inl,fun h=>h.elim id fun h=>?_⟩;simp at h;omega
  . have hplt:=hp p (List.mem_cons_self ..);obtain⟨s,hsp⟩:∃s,sets[p.toNat]? =some s:=⟨_,ah (by omega)⟩
    have hpn:((p.toNat:Nat):Int)=p:=by omega
    have hin:=hs p.toNat s hsp;rw[hpn]at hin;cases hc:seen.contains p with
    | true =>
     rw[hc]at hin;have e:gu sets l p=l:=by unfold gu;rw[if_neg (by simpa using hneg),hsp];simp only[hin,if_true]
     rw[e,if_pos (by simp[hc])];refine lM hr ps l _ hps fun k t hk=>?_
     rw[hs k t hk,Bool.eq_iff_iff,cr,cr,List.mem_append];refine⟨.inl,fun h=>h.elim id fun h=>?_⟩;simp at h;rw[h];exact cr.1 hc
    | false =>
     rw[hc]at hin;have e:gu sets l p=l++[s]:=by unfold gu;rw[if_neg (by simpa using hneg),hsp];simp only[hin,if_false,aB]
     rw[e,if_neg (by simp[hneg,hc]),hsp];rw[lM hr ps (l++[s]) (seen++[p]) hps fun k t hk=>?_]
     . simp
     . have:cj (l++[s]) (qOf t)=(cj l (qOf t)||is (qOf t) s):=by unfold cj;rw[List.any_append];simp
       rw[this,hs k t hk,Bool.eq_iff_iff,Bool.or_eq_true,cr,cr,List.mem_append];refine or_congr Iff.rfl ?_;rw[lp,List.mem_singleton];constructor
       . intro h;have:=zN hr hsp hk h;omega
       . intro h;have:k=p.toNat:=by omega
         subst this;rw[hsp]at hk;cases hk;rfl
theorem se(sets:List Signed):G5 sets [] []:=fun k s _=>rfl
theorem fR{z:aS}(l:List Signed)(q:bg):bo l z q=gu z.sets l (atI z.sets q):=by
 unfold bo gu;by_cases h:decide (atI z.sets q<0)=true
 . rw[if_pos h,if_pos h]
 . rw[if_neg h,if_neg h];have hh:cj z.sets q=true:=by
    have:=jJ z.sets q;cases hc:cj z.sets q with
    | true=>rfl
    | false=>rw[hc]at this;exact absurd this h
   obtain⟨k,s,h1,h2,h3⟩:=oo hh;have hk:(atI z.sets q).toNat=k:=by rw[h1];rfl
   rw[hk,h2];simp only;have:cj l q=cj l (qOf s):=by
    unfold cj
    congr 1
    funext x
    rw[Bool.eq_iff_iff,lp,lp];have:(qOf s).place=q.place:=h3;rw[this]
   rw[this]
theorem xd(l:List Signed)(n:Bs):∀k:Nat,k<=mv l n->(∀i s,i<k->l[i]? =some s->aL s.set.name n<=0)->(k9 l n k=none/\jY l k= -1)\/ ∃i s,l[i]? =some s/\k9 l n k=some s/\jY l k=((i:Nat):Int)/\s.set.type=8
 | 0,_,_=> .inl ⟨rfl,rfl⟩
 | k+1,hk,h=>by
  have hlt:k<l.length:=by have:=mX l n;omega
  obtain⟨s,hs⟩:∃s,l[k]? =some s:=⟨_,ah hlt⟩
  have hc:=h k s (by omega) hs;simp only[k9,jY,hs];by_cases ht:s.set.type=8
  . refine .inr ⟨k,s,hs,?_,?_,ht⟩
    . rw[if_pos (by unfold mh;simp[ht,hc])]
    . simp[ht]
  . have e1:mh n s=false:=by unfold mh;simp[ht]
    rw[if_neg (by simp[e1])];have e2:(s.set.type==8)=false:=by simpa using ht
    have:=xd l n k (by omega) fun i s hi hs=>h i s (by omega) hs
    simpa [e2,ht] using this
theorem zi(l:List Signed)(n:Bs):∀k j:Nat,j<=k->(∀i s,j<=i->i<k->l[i]? =some s->0<aL s.set.name n)->k9 l n k=k9 l n j
 | 0, j, hj, _ => by obtain rfl : j = 0 := by omega
                     rfl
 | k+1,j,hj,h=>by
  by_cases e:j=k+1
  . rw[e]
  . rw[k9];have:=zi l n k j (by omega) fun i s h1 h2 hs=>h i s h1 (by omega) hs
    cases hs:l[k]? with
    | none=>exact this
    | some s =>
     have hc:=h k s (by omega) (by omega) hs;have e1:mh n s=false:=by unfold mh;rw[decide_eq_false (by omega)];simp
     simp only;rw[if_neg (by simp[e1])];exact this
theorem Hv{z:aS}(hr:dy z.sets)(n:Bs):(k9 z.sets n z.sets.length=none/\eG z.sets n= -1)\/ ∃i s,z.sets[i]? =some s/\k9 z.sets n z.sets.length=some s/\eG z.sets n=((i:Nat):Int)/\s.set.type=8:=by
 have hp:=l6 hr;rw[zi z.sets n z.sets.length (mv z.sets n) (mX _ _) fun i s h1 _ hs=>(rS hp hs).1 h1];exact xd z.sets n _ (Nat.le_refl _) fun i s hi hs=>by
  have:¬(mv z.sets n<=i):=by omega
  rw[rS hp hs]at this;omega
theorem ll{z:aS}(hr:dy z.sets)(l:List Signed)(n:Bs):bK l z n=gu z.sets l (eG z.sets n):=by
 unfold bK;rcases Hv hr n with ⟨h1,h2⟩ | ⟨i,s,hs,h1,h2,ht⟩
 . rw[h1,h2];rfl
 . rw[h1,h2];simp only;rw[fR];have hmem:=ar hs;have hq:(⟨s.set.name,8⟩:bg).place=s.place:=by unfold bg.place Signed.place;simp[ht]
   have hh:cj z.sets ⟨s.set.name,8⟩=true:=mU.2 ⟨s,hmem,hq.symm⟩;obtain⟨k,t,h3,h4,h5⟩:=oo hh;have:=zN hr.pw h4 hs (h5.trans hq);subst this;rw[h3]
theorem MH{a b:Bs}(h:aL a b<=0):0<=aL b a:=by have:=aY.anti a b;omega
theorem J8{a b:Bs}(h:0<=aL a b):aL b a<=0:=by have:=aY.anti a b;omega
theorem ue{s n:Bs}(hs:an s=true)(hn:an n=true):(bJ s n).1=aM s n:=by unfold bJ;rw[if_pos ⟨hs,hn⟩]
theorem mi{z:aS}(ho:Ordered z){n:Bs}(hn:an n=true):exB z.sets n=cS z n:=by
 have hp:=l6 ho.rising;have ge:∀s∈z.sets,aM s.set.name n=true-> ∃i,z.sets[i]? =some s/\oh z.sets n<=i:=fun s hs hu=>by
  obtain⟨i,hi⟩:=cd hs;exact⟨i,hi,(rT hp hi).2 (MH (nf hu))⟩
 unfold exB cS;cases hg:z.sets[oh z.sets n]? with
 | none =>
  symm
  rw[List.any_eq_false];intro s hs hu;obtain⟨i,hi,hle⟩:=ge s hs hu;have h1:=(av.1 hi).1;have h2:=List.getElem?_eq_none_iff.1 hg;omega
 | some t =>
  have htm:=ar hg;simp only;rw[ue (ho.name t htm) hn];cases hu:aM t.set.name n with
  | true=>symm;exact List.any_eq_true.2 ⟨t,htm,hu⟩
  | false =>
   symm
   rw[List.any_eq_false];intro s hs hus;obtain⟨i,hi,hle⟩:=ge s hs hus;have hnt:aL n t.set.name<=0:=J8 ((rT hp hg).1 (Nat.le_refl _));have hts:aL t.set.name s.set.name<=0:=by
    rcases Nat.lt_or_eq_of_le hle with hlt | heq
    . obtain⟨h1,e1⟩:=av.1 hg;obtain⟨h2,e2⟩:=av.1 hi;have:=List.pairwise_iff_getElem.1 hp _ _ h1 h2 hlt
      rwa [e1,e2]at this
    . rw[<- heq,hg]at hi;cases hi;have:=(aY.zero t.set.name t.set.name).2 rfl;omega
   have:=ng (fF n) hus hnt hts;rw[hu]at this;cases this
theorem Bh{z:aS}(ho:Ordered z)(hex:cS z z.apex=true):∀(f:Nat) (n:Bs),an n=true->aM n z.apex=true->mQ z.apex z.sets f n=vV z f n
 | 0,n,_,_=>rfl
 | f+1,n,hn,hu=>by
  rw[mQ,vV];by_cases hne:n=z.apex
  . subst hne;rw[if_pos rfl,if_pos hex]
  . rw[if_neg hne,mi ho hn];cases he:cS z n with
    | true=>rw[if_pos rfl,if_pos rfl]
    | false =>
     rw[if_neg (by simp),if_neg (by simp)];obtain⟨_,k2,_⟩:=kx hn hu hne;exact Bh ho hex f (cz n) (eV hn) k2
theorem xo{z:aS}{v:View}(hv:v.sets=z.sets)(hc:an v.cut=true):∀(h:List Datum) (l:List Signed),(∀d∈h,an d.text=true)->ji z v.cut l h=(dR v h).foldl (gu z.sets) l
 | [],l,_=>by simp[ji,dR]
 | d::h,l,hd=>by
  have e1:ji z v.cut l (d::h)=ji z v.cut (if aM d.text v.cut=true then bo l z ⟨d.text,1⟩else l) h:=rfl;have e2:dR v (d::h)=(if (bJ d.text v.cut).1=true then[atI v.sets ⟨d.text,1⟩]else[])++dR v h:=by unfold dR;rw[List.flatMap_cons]
  rw[e1,e2,List.foldl_append,ue (hd d (List.mem_cons_self ..)) hc,xo hv hc h _ fun x hx=>hd x (aW _ hx)]
  congr 1
  split
  . rw[fR,hv];rfl
  . rfl
theorem MV{v:View}{l:List Datum}{q:Int}(hq:q∈dR v l):q<v.sets.length:=by
 unfold dR at hq;obtain⟨x,_,hx⟩:=List.mem_flatMap.1 hq;split at hx
 . simp at hx;rw[hx];exact cZ _ _
 . cases hx
theorem tN{v:View}{q:Int}(hq:q∈dZ v):q<v.sets.length:=by
 unfold dZ at hq;rcases List.mem_append.1 hq with hq | hq
 . simp at hq;rcases hq with rfl | rfl
   . exact cZ _ _
   . unfold iA;split <;> exact cZ _ _
 . exact MV hq
theorem Ls{z:aS}{v:View}(ho:Ordered z)(hf:eH z=true)(hs:v.sets=z.sets)(hc:an v.cut=true)(hcut:cj z.sets ⟨v.cut,2⟩=true):(⟨4,cn v.sets [] (dZ v),v.cut⟩:Ans)=kT z v.cut:=by
 obtain⟨s0,hs0,hp0,e0⟩:=vO hcut;have hr0:rl0 z v.cut=[s0]:=e0;have e2:rl2 z v.cut=gu z.sets (gu z.sets [] (dL v)) (iA v):=by
  have e3:gu z.sets [] (dL v)=[s0]:=by unfold dL;rw[hs, <- fR];exact e0
  rw[e3];unfold rl2;rw[hr0];have hr1:rl1 z v.cut=gu z.sets [s0] (atI z.sets ⟨v.cut,6⟩):=by unfold rl1;rw[hr0,fR]
  by_cases hneg:atI z.sets ⟨v.cut,6⟩<0
  . have:rl1 z v.cut=[s0]:=by rw[hr1];unfold gu;rw[if_pos (by simpa using hneg)]
    rw[this,if_pos (by simp),fR];unfold iA;rw[hs,if_pos (by simpa using hneg)]
  . obtain⟨k,s,h1,h2,h3⟩:=oo (l:=z.sets) (q:=⟨v.cut,6⟩) (by
     have:=jJ z.sets ⟨v.cut,6⟩;cases hc:cj z.sets ⟨v.cut,6⟩with
     | true=>rfl
     | false=>rw[hc]at this;simp at this;omega)
    have hno:cj [s0] (qOf s)=false:=by
     unfold cj;simp only[List.any_cons,List.any_nil,aE];rw[<- Bool.not_eq_true,lp];intro e;have e' :s0.place=s.place:=e;rw[hp0,h3]at e';have:=congrArg Prod.snd e';simp[bg.place]at this
    have:rl1 z v.cut=[s0]++[s]:=by rw[hr1,h1];unfold gu;rw[if_neg (by simp)];simp only[show((k:Nat):Int).toNat=k by simp,h2,hno];rfl
    rw[this,if_neg (by simp), <- this,hr1];unfold iA;rw[hs,if_neg (by simpa using hneg)]
 have hho:qJ (rl0 z v.cut)=jm v:=by
  have h1:dL v=atI z.sets ⟨v.cut,2⟩:=by unfold dL;rw[hs]
  obtain⟨k,s,a1,a2,a3⟩:=oo hcut;have:s=s0:=RP.uniq ho.rising.pw (ar a2) hs0 (a3.trans hp0.symm);subst this;unfold qJ jm;rw[hr0,h1,a1,hs];simp[a2]
 have hdv:∀d∈jm v,an d.text=true:=by
  rw[<- hho];unfold qJ;rw[hr0];exact((E7 ho hf) s0 hs0).2 (congrArg Prod.snd hp0)
 unfold kT
 congr 1
 rw[hho,e2,xo hs hc _ _ hdv,hs];have:=lM ho.rising.pw (dZ v) [] [] (fun p hp=>by rw[<- hs];exact tN hp) (se _);rw[List.nil_append]at this;rw[<- this];unfold dZ;rw[List.foldl_append];rfl
theorem Mm{z:aS}(ho:Ordered z)(p:Int)(hp:p<z.sets.length):cn z.sets [] [p]=gu z.sets [] p:=by
 have:=lM ho.rising.pw [p] [] [] (fun q hq=>by simp at hq;rw[hq];exact hp) (se _);rw[List.nil_append]at this;rw[<- this];rfl
theorem AL{z:aS}(ho:Ordered z)(p q:Int)(hp:p<z.sets.length)(hq:q<z.sets.length):cn z.sets [] [p,q]=gu z.sets (gu z.sets [] p) q:=by
 have:=lM ho.rising.pw [p,q] [] [] (fun r hr=>by simp at hr;rcases hr with rfl | rfl <;> assumption) (se _);rw[List.nil_append]at this;rw[<- this];rfl
theorem Mn{z:aS}(ho:Ordered z)(p q r:Int)(hp:p<z.sets.length)(hq:q<z.sets.length)(hr:r<z.sets.length):cn z.sets [] [p,q,r]=gu z.sets (gu z.sets (gu z.sets [] p) q) r:=by
 have:=lM ho.rising.pw [p,q,r] [] [] (fun x hx=>by simp at hx;rcases hx with rfl | rfl | rfl <;> assumption) (se _);rw[List.nil_append]at this;rw[<- this];rfl
theorem uv{z:aS}{q:bg}:decide (((bo [] z q).length:Int)>0)=decide (atI z.sets q>=0):=by
 have h:=jJ z.sets q;cases hh:cj z.sets q with
 | true =>
  obtain⟨s,_,_,e⟩:=vO hh;rw[e];rw[hh]at h;have:¬atI z.sets q<0:=by simpa using h
  rw[decide_eq_true (by simp),decide_eq_true (by omega)]
 | false =>
  rw[G7 hh];rw[hh]at h;have:atI z.sets q<0:=by simpa using h
  rw[decide_eq_false (by simp),decide_eq_false (by omega)]
theorem Hh{z:aS}(ho:Ordered z)(t:Int):atI z.sets ⟨[],t⟩<0:=by
 have h:=jJ z.sets ⟨[],t⟩;cases hh:cj z.sets ⟨[],t⟩with
 | true =>
  obtain⟨s,hs,hp⟩:=mU.1 hh;have hv:=ho.name s hs;have:s.set.name=[]:=congrArg Prod.fst hp;rw[this]at hv;exact absurd rfl (kz hv)
 | false=>rw[hh]at h;simpa using h
theorem Nt{z:aS}(hf:eH z=true)(q:bg):lF z q=bH z q:=by
 unfold lF;have hty:(decide (q.type<1)||decide (q.type>8))=true->bH z q=(lJ,1):=fun h=>by unfold bH;rw[if_pos h]
 have hcu:∀c b e,(decide (q.type<1)||decide (q.type>8))=false->dW z q.name=(c,b,e)->bH z q=if (e==20)=true then(⟨7,[],[]⟩,0)else if (e != 0)=true then(lJ,e)else(fo (kA z q c b),0):=fun c b e h hc=>by
  unfold bH;rw[if_neg (by simp[h]),hc]
 cases hv:bE z with
 | false =>
  rw[if_pos (by simp)];have hc:dW z q.name=([],false,1):=by unfold dW;rw[hv];simp
  cases ht:(decide (q.type<1)||decide (q.type>8))with
  | true=>rw[hty ht]
  | false=>rw[hcu _ _ _ ht hc];rfl
 | true =>
 have ho:=bu hv;cases hqn:an q.name with
 | false =>
  have hqb:b9 q=false:=by unfold b9;rw[hqn];rfl
  rw[if_pos (by rw[hqb];rfl)];have hc:dW z q.name=([],false,1):=by unfold dW;rw[hqn];simp
  cases ht:(decide (q.type<1)||decide (q.type>8))with
  | true=>rw[hty ht]
  | false=>rw[hcu _ _ _ ht hc];rfl
 | true =>
 cases ht:(decide (q.type<1)||decide (q.type>8))with
 | true =>
  have hqb:b9 q=false:=by
   unfold b9;rw[hqn];simp at ht ⊢;omega
  rw[if_pos (by rw[hqb];rfl),hty ht]
 | false =>
 have hqb:b9 q=true:=by
  unfold b9;rw[hqn];simp at ht ⊢;omega
 rw[if_neg (by rw[hqb];simp)];cases hu:aM q.name z.apex with
 | false =>
  rw[if_pos (by simp)];have hc:dW z q.name=([],false,20):=by unfold dW;rw[hqn,hv,ue hqn ho.apex,hu];simp
  rw[hcu _ _ _ ht hc];rfl
 | true =>
 rw[if_neg (by simp)];have hc:=EB hv hqn hu;have hR:bH z q=(fo (kA z q (bx z q.name) (!(bx z q.name==[]))),0):=by rw[hcu _ _ _ ht hc];rfl
 rw[hR];have hval:=qX.1 hv;have hex:cS z z.apex=true:=rD hval.start;generalize hcc:bx z q.name=c;have hcOk:c ≠ []->an c=true/\cj z.sets ⟨c,2⟩=true:=fun h=>hcc ▸ sP ho (hcc ▸ h)
 dsimp only;generalize hvv:kA z q c (!(c==[]))=v;have hsets:v.sets=z.sets:=by rw[<- hvv];rfl
 have hvq:v.q=q:=by rw[<- hvv];rfl
 have hvc:v.cut=c:=by rw[<- hvv];rfl
 have hva:v.apex=z.apex:=by rw[<- hvv];rfl
 have hwild:v.cP=[]:=by rw[<- hvv];rfl
 have hrB:eB v=(!(c==[])&&(!(c==q.name)|| !fw q)):=by
  rw[<- hvv];unfold eB sI fw kA;dsimp only;rw[Bool.beq_comm (a:=q.name) (b:=c)];cases (c==[]) <;> cases (c==q.name) <;> simp
 unfold fo;rw[hrB];cases hr:(!(c==[])&&(!(c==q.name)|| !fw q))with
 | true =>
  simp only[↓reduceIte];have hne:c ≠ []:=by intro e;rw[e]at hr;simp at hr
  obtain⟨h1,h2⟩:=hcOk hne;have:=Ls (v:=v) ho hf hsets (by rw[hvc];exact h1) (by rw[hvc];exact h2);unfold jF;rw[hrB,hr,if_pos rfl,this,hvc]
 | false =>
 simp only[aB, ↓reduceIte];have hd:uy v=decide (((bo [] z q).length:Int)>0):=by unfold uy;rw[uv,hsets,hvq]
 rw[hd];cases hdd:decide (((bo [] z q).length:Int)>0)with
 | true =>
  simp only[↓reduceIte];unfold xe;rw[hsets,hvq,Mm ho _ (cZ _ _),fR]
 | false =>
 simp only[aB, ↓reduceIte];have ha:nF v=(decide (((bo [] z ⟨q.name,3⟩).length:Int)>0)&&(q.type != 8)):=by unfold nF;rw[uv,hsets,hvq]
 rw[ha];cases haa:(decide (((bo [] z ⟨q.name,3⟩).length:Int)>0)&&(q.type != 8))with
 | true =>
  simp only[↓reduceIte];unfold wT;rw[hsets,hvq,Mm ho _ (cZ _ _),fR]
 | false =>
 simp only[aB, ↓reduceIte];have hproof:cn z.sets [] [dz v,eG v.sets v.q.name]=bK (bo [] z ⟨z.apex,4⟩) z q.name:=by
  rw[AL ho _ _ (by unfold dz;rw[hsets];exact cZ _ _) (by rw[hsets];exact dA _ _),ll ho.rising,fR];unfold dz;rw[hsets,hvq,hva]
 rw[hsets,hvq,mi ho hqn];cases he:cS z q.name with
 | true =>
  simp only[↓reduceIte];unfold kQ;rw[hsets,hvq,mi ho hqn,he,if_pos rfl];rw[hsets,hvq]at hproof;rw[<- hproof]
 | false =>
 simp only[aB, ↓reduceIte];have hcl:nI v.apex v.sets v.q.name=cW z q.name:=by
  unfold nI cW;rw[hsets,hvq,hva];exact Bh ho hex _ _ hqn hu
 have hnd:ck v={v with cP:=mD (cW z q.name)}:=by
  unfold ck;rw[<- hcl,hsets,hvq,mi ho hqn,he,if_neg (by simp)]
 rw[hnd];generalize hst:mD (cW z q.name)=w;have hu2:({v with cP:=w}:View).sets=z.sets:=hsets;cases hj:((cC ([42]::bd (cW z q.name))).2==0)with
 | false =>
  have hw:w=[]:=by rw[<- hst];exact wN _ (by simpa using hj)
  rw[if_pos (by simp)];have h1:pY {v with cP:=w}=false:=by
   unfold pY;rw[hw];have:=Hh ho v.q.type;rw[<- hsets]at this;exact decide_eq_false (by show ¬(atI v.sets ⟨[],v.q.type⟩>=0);omega)
  have h2:fM {v with cP:=w}=false:=by
   unfold fM;rw[hw];have:=Hh ho 3;rw[<- hsets]at this;rw[decide_eq_false (show ¬(atI v.sets ⟨[],3⟩>=0) by omega)];rfl
  have h3:jT {v with cP:=w}=false:=by unfold jT;rw[hw];rfl
  rw[h1,h2,h3];simp only[aB,if_false];have:jQ {v with cP:=w}=⟨6,cn v.sets [] [dz v,eG v.sets v.q.name, -1],[]⟩:=by
   unfold jQ;rw[if_pos hw];rfl
  rw[this,hsets];rw[hsets]at hproof;have hp3:cn z.sets [] [dz v,eG z.sets v.q.name, -1]=cn z.sets [] [dz v,eG z.sets v.q.name]:=by
   rw[Mn ho _ _ _ (by unfold dz;rw[hsets];exact cZ _ _) (dA _ _) (by omega),AL ho _ _ (by unfold dz;rw[hsets];exact cZ _ _) (dA _ _)];unfold gu;rw[if_pos (by decide)]
  rw[hp3,hproof]
 | true =>
  rw[if_neg (by simp)];have hw:(cC ([42]::bd (cW z q.name))).1=w:=hst;have hwv:an w=true:=by
   rw[<- hst];unfold mD;have hj0:(cC ([42]::bd (cW z q.name))).2=0:=by simpa using hj
   unfold cC at hj0 ⊢;split
   . rename_i h;exact(yB h).1
   . rename_i h;rw[if_neg h]at hj0;simp at hj0
  have hwne:=kz hwv;rw[hw]
  (try dsimp only)
  have h1:pY {v with cP:=w}=decide (((bo [] z ⟨w,q.type⟩).length:Int)>0):=by
   unfold pY;rw[uv];show decide (atI v.sets ⟨w,v.q.type⟩>=0)=_;rw[hsets,hvq]
  have h2:fM {v with cP:=w}=(decide (((bo [] z ⟨w,3⟩).length:Int)>0)&&(q.type != 8)):=by
   unfold fM;rw[uv];show(decide (atI v.sets ⟨w,3⟩>=0)&&(v.q.type != 8))=_;rw[hsets,hvq]
  have h3:jT {v with cP:=w}=cS z w:=by
   unfold jT;show(!(w==[])&&exB v.sets w)=_
   rw[hsets,mi ho hwv];have:(w==[])=false:=by simpa using hwne
   rw[this];rfl
  rw[h1,h2,h3];cases hdw:decide (((bo [] z ⟨w,q.type⟩).length:Int)>0)with
  | true =>
   simp only[↓reduceIte];show((⟨2,bK (bo [] z ⟨w,q.type⟩) z q.name,[]⟩:Ans),(0:Int))=(⟨2,cn v.sets [] [atI v.sets ⟨w,v.q.type⟩,eG v.sets v.q.name],[]⟩,0)
   rw[hsets,hvq,AL ho _ _ (cZ _ _) (dA _ _),ll ho.rising,fR]
  | false =>
  simp only[aB, ↓reduceIte];cases haw:(decide (((bo [] z ⟨w,3⟩).length:Int)>0)&&(q.type != 8))with
  | true =>
   simp only[↓reduceIte];show((⟨3,bK (bo [] z ⟨w,3⟩) z q.name,[]⟩:Ans),(0:Int))=(⟨3,cn v.sets [] [atI v.sets ⟨w,3⟩,eG v.sets v.q.name],[]⟩,0)
   rw[hsets,hvq,AL ho _ _ (cZ _ _) (dA _ _),ll ho.rising,fR]
  | false =>
  simp only[aB, ↓reduceIte];have hp3:bK (bK (bo [] z ⟨z.apex,4⟩) z q.name) z w=cn v.sets [] [dz v,eG v.sets v.q.name,eG v.sets w]:=by
   rw[hsets,Mn ho _ _ _ (by unfold dz;rw[hsets];exact cZ _ _) (dA _ _) (dA _ _),ll ho.rising,ll ho.rising,fR];unfold dz;rw[hsets,hvq,hva]
  cases hew:cS z w with
  | true =>
   simp only[aB, ↓reduceIte];rw[hp3];unfold kZ;rw[h3,hew,if_pos rfl];rfl
  | false =>
   simp only[aB, ↓reduceIte];rw[hp3];show _=(jQ {v with cP:=w},(0:Int))
   unfold jQ;rw[if_neg hwne];rfl
theorem Cn(l:List Signed):∀(ps seen:List Int),(cn l seen ps).length<=ps.length
 | [],_=>by simp[cn]
 | p::t,seen=>by
  have:=Cn l t (seen++[p]);rw[cn];split
  . rw[List.length_cons];omega
  . rw[List.length_cons,List.length_cons];omega
theorem rR{l:List Signed}:∀{ps seen:List Int},(∀p∈ps,p<l.length)-> ∀s∈cn l seen ps,∃p∈ps,p ∉ seen/\0<=p/\l[p.toNat]? =some s
 | [],_,_,s,hs=>by simp[cn]at hs
 | p::t,seen,hp,s,hs=>by
  rw[cn]at hs;split at hs
  . obtain⟨q,h1,h2,h3⟩:=rR (fun q hq=>hp q (aW _ hq)) s hs;exact⟨q,aW _ h1,fun e=>h2 (List.mem_append.2 (.inl e)),h3⟩
  . rename_i hc;simp only[Bool.or_eq_true,decide_eq_true_eq,cr,not_or]at hc;have hlt:=hp p (List.mem_cons_self ..);obtain⟨x,hx⟩:∃x,l[p.toNat]? =some x:=⟨_,ah (by omega)⟩
    rw[hx]at hs;rcases List.mem_cons.1 hs with e | hs
    . have e:s=x:=e;subst e;exact⟨p,List.mem_cons_self .., hc.2,by omega,hx⟩
    . obtain⟨q,h1,h2,h3⟩:=rR (fun q hq=>hp q (aW _ hq)) s hs;exact⟨q,aW _ h1,fun e=>h2 (List.mem_append.2 (.inl e)),h3⟩
theorem vn(v:View):(ck v).sets=v.sets:=by unfold ck;split <;> rfl
theorem Dg{v:View}(hd:(jm v).length<=900):∃ps:List Int,(∀p∈ps,p<v.sets.length)/\ps.length<=1000/\(fo v).sets=cn v.sets [] ps:=by
 have e:=vn v;have hl:=pK v (jm v);unfold fo;split
 . rename_i h;refine⟨dZ v,fun p hp=>tN hp,?_,?_⟩
   . unfold dZ;simp;omega
   . unfold jF;rw[if_pos h]
 split
 . exact⟨_,by simp[cZ],by simp,rfl⟩
 split
 . exact⟨_,by simp[cZ],by simp,rfl⟩
 split
 . rename_i h;refine⟨[dz v,eG v.sets v.q.name],by simp[dz,cZ,dA],by simp,?_⟩;unfold kQ;rw[if_pos h]
 split
 . refine⟨[_,_],?_,by simp,by unfold ye;rw[e]⟩;intro p hp;simp only[List.mem_cons,List.not_mem_nil,or_false]at hp;rcases hp with rfl | rfl
   . exact cZ _ _
   . exact dA _ _
 split
 . refine⟨[_,_],?_,by simp,by unfold mJ;rw[e]⟩;intro p hp;simp only[List.mem_cons,List.not_mem_nil,or_false]at hp;rcases hp with rfl | rfl
   . exact cZ _ _
   . exact dA _ _
 split
 . rename_i h;refine⟨[_,_,_],?_,by simp,by unfold kZ;rw[if_pos h,e]⟩;intro p hp;simp only[List.mem_cons,List.not_mem_nil,or_false]at hp;rcases hp with rfl | rfl | rfl
   . unfold dz;rw[e];exact cZ _ _
   . exact dA _ _
   . exact dA _ _
 . refine⟨[_,_,_],?_,by simp,by unfold jQ;rw[e]⟩;intro p hp;simp only[List.mem_cons,List.not_mem_nil,or_false]at hp;have hpos:(0:Int)<=v.sets.length:=by omega
   rcases hp with rfl | rfl | rfl
   . unfold dz;rw[e];exact cZ _ _
   . exact dA _ _
   . split
     . omega
     . exact dA _ _
theorem wU{z:aS}(hf:eH z=true)(q:bg):∃ps:List Int,(∀p∈ps,p<z.sets.length)/\ps.length<=1000/\(bH z q).1.sets=cn z.sets [] ps:=by
 have none:∃ps:List Int,(∀p∈ps,p<z.sets.length)/\ps.length<=1000/\([]:List Signed)=cn z.sets [] ps:=⟨[],by simp,by simp,rfl⟩
 unfold bH;split
 . exact none
 split
 . exact none
 split
 . exact none
 . refine Dg (v:=kA z q _ _) ?_;unfold jm;split
   . rename_i s hs;have:=((dG hf).2 s (ar hs)).1;omega
   . simp
theorem Mz{z:aS}(hf:eH z=true)(q:bg):∀s∈(bH z q).1.sets,s∈z.sets:=by
 obtain⟨ps,h1,_,h3⟩:=wU hf q;rw[h3];intro s hs;obtain⟨p,_,_,_,h⟩:=rR h1 s hs;exact ar h
theorem Ep{z:aS}(hf:eH z=true)(q:bg):(bH z q).1.sets.length<=1000:=by
 obtain⟨ps,h1,h2,h3⟩:=wU hf q;rw[h3];have:=Cn z.sets ps [];omega
structure Use(z:aS)(q:bg):Prop where
 few:eH z=true
 val:bE z=true
 quest:b9 q=true
 under:aM q.name z.apex=true
theorem Use.name{z:aS}{q:bg}(u:Use z q):an q.name=true:=by have:=u.quest;unfold b9 at this;simp only[aR]at this;exact this.1.1
theorem Use.ord{z:aS}{q:bg}(u:Use z q):Ordered z:=bu u.val
def vw(z:aS)(q:bg):View:=kA z q (bx z q.name) (!(bx z q.name==[]))
theorem Use.cut{z:aS}{q:bg}(u:Use z q):dW z q.name=(bx z q.name, !(bx z q.name==[]),0):=EB u.val u.name u.under
theorem Use.ans{z:aS}{q:bg}(u:Use z q):bH z q=(fo (vw z q),0):=by
 have hq:=u.quest;unfold b9 at hq;simp only[aR,decide_eq_true_eq]at hq;unfold bH;rw[if_neg (by simp;omega),u.cut];rfl
theorem CT(z:aS)(q:bg):eB (vw z q)=(!(bx z q.name==[])&& !((bx z q.name==q.name)&&fw q)):=by
 unfold eB sI fw vw kA;dsimp only;rw[Bool.beq_comm (a:=q.name) (b:=bx z q.name)];cases (bx z q.name==[]) <;> cases (bx z q.name==q.name) <;> simp
theorem Hd(v:View):(fo v).kind=if eB v=true then 4 else if uy v=true then 1 else if nF v=true then 3 else if exB v.sets v.q.name=true then 5
 else if pY (ck v)=true then 2 else if fM (ck v)=true then 3 else if jT (ck v)=true then 5 else 6:=by
 unfold fo;split
 . rename_i h;unfold jF;rw[if_pos h]
 split
 . rfl
 split
 . rfl
 split
 . rename_i h;unfold kQ;rw[if_pos h]
 split
 . rfl
 split
 . rfl
 split
 . rename_i h;unfold kZ;rw[if_pos h]
 . rfl
theorem JT{v:View}(h:eB v=false):(fo v).cut=[]:=by
 unfold fo;rw[if_neg (by simp[h])]
 repeat' split
 all_goals first | rfl | skip
 . unfold kQ;split <;> rfl
 . unfold kZ;split <;> rfl
theorem Use.ES{z:aS}{q:bg}(u:Use z q)(hr:eB (vw z q)=false):((bH z q).1.kind==4)=false/\(bH z q).1.cut=[]:=by
 rw[u.ans];refine⟨?_,JT hr⟩;show((fo (vw z q)).kind==4)=false
 rw[Hd,hr];simp only[aB, ↓reduceIte]
 repeat' split
 all_goals rfl
theorem Use.Mp{z:aS}{q:bg}(u:Use z q)(hr:eB (vw z q)=true):∃s0 R,s0∈z.sets/\s0.place=(bx z q.name,2)/\(bH z q).1=⟨4,s0::R,bx z q.name⟩ /\
 ∀s∈R,(s.set.type=6/\s.set.name=bx z q.name)\/(s.set.type=8/\s.set.name=bx z q.name)\/(s.set.type=1/\bJ s.set.name (bx z q.name)=(true,0)/\s0.set.data.any (fun d=>d.text==s.set.name)=true):=by
 have hne:bx z q.name ≠ []:=by
  intro e;rw[CT,e]at hr;cases hr
 obtain⟨hcv,hcut⟩:=sP u.ord hne;have ho:=u.ord;obtain⟨k,s0,h1,h2,h3⟩:=oo hcut;have hm0:=ar h2;have hserv:dL (vw z q)=((k:Nat):Int):=h1;have hsd:jm (vw z q)=s0.set.data:=by
  unfold jm;rw[hserv];show(match z.sets[((k:Nat):Int).toNat]? with | some s=>s.set.data | none=>[])=_
  rw[show((k:Nat):Int).toNat=k by simp,h2]
 have hlt:∀p∈dZ (vw z q),p<z.sets.length:=fun p hp=>tN (v:=vw z q) hp
 have e1:cn z.sets [] (dZ (vw z q))=s0::cn z.sets [dL (vw z q)] (iA (vw z q)::dR (vw z q) (jm (vw z q))):=by
  unfold dZ;rw[show[dL (vw z q),iA (vw z q)]++dR (vw z q) (jm (vw z q))=dL (vw z q)::(iA (vw z q)::dR (vw z q) (jm (vw z q)))from rfl,cn,if_neg (by rw[hserv];simp)];rw[hserv];simp[h2]
 refine⟨s0,cn z.sets [dL (vw z q)] (iA (vw z q)::dR (vw z q) (jm (vw z q))),hm0,h3,?_,fun s hs=>?_⟩
 . rw[u.ans];show fo (vw z q)=_
   unfold fo;rw[if_pos hr];unfold jF;rw[if_pos hr];show(⟨4,cn z.sets [] (dZ (vw z q)),bx z q.name⟩:Ans)=_
   rw[e1]
 . obtain⟨p,hp1,hp2,hp3,hp4⟩:=rR (fun p hp=>hlt p (by unfold dZ;exact aW _ hp)) s hs;have hsm:=ar hp4;have atp:∀q' :bg,p=atI z.sets q' ->s.place=q'.place:=fun q' e=>by
    have hh:cj z.sets q' =true:=by
     have:=jJ z.sets q';cases hc:cj z.sets q' with
     | true=>rfl
     | false=>rw[hc]at this;simp at this;omega
    obtain⟨j,t,a1,a2,a3⟩:=oo hh;rw[a1]at e;have:p.toNat=j:=by omega
    rw[this,a2]at hp4;cases hp4;exact a3
   rcases List.mem_cons.1 hp1 with hp | hp
   . unfold iA at hp;split at hp
     . have:=atp ⟨bx z q.name,8⟩ hp;exact .inr (.inl ⟨congrArg Prod.snd this,congrArg Prod.fst this⟩)
     . have:=atp ⟨bx z q.name,6⟩ hp;exact .inl ⟨congrArg Prod.snd this,congrArg Prod.fst this⟩
   . unfold dR at hp;obtain⟨d,hd,hx⟩:=List.mem_flatMap.1 hp;split at hx
     . rename_i hu;simp at hx;have:=atp ⟨d.text,1⟩ hx;have hn:s.set.name=d.text:=congrArg Prod.fst this;refine .inr (.inr ⟨congrArg Prod.snd this,?_,?_⟩)
       . have hv:=ho.name s hsm;have hu' :(bJ d.text (bx z q.name)).1=true:=hu;rw[<- hn]at hu';unfold bJ at hu' ⊢;rw[if_pos ⟨hv,hcv⟩]at hu' ⊢;simp only at hu';rw[hu']
       . rw[hsd]at hd;exact List.any_eq_true.2 ⟨d,hd,by rw[hn];simp⟩
     . cases hx
end NP
