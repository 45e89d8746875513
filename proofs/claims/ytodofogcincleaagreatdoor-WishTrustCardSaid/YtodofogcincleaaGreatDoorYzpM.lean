/-
  One text.
-/
import Derived.Test.YtodofogcincleaaGreatDoorMYzn
import Derived.Defers
set_option linter.all false
set_option maxRecDepth 100000
namespace Go.Proofs.YtodofogcincleaaGreatDoor
open NQ Go.RowKit
def mC(w:aZ)(x:bA)(since aN:Int):Bool:=((!fQ w x||decide (since<0))||decide (since>aN))||decide (aN>20000000)
def jc(w:aZ)(x:bA)(since aN:Int)(q:List (List ao)×Int):Prop :=
 if mC w x since aN=true then q=([],1)else match nf w x since aN with
  |some o=>q=(o.bp,0)
  |none=>q.1=[]/\q.2≠0
def zo(w:aZ)(x:bA)(since aN:Int):St:=⟨jY 0 [.agg ((bu w).map .d),.agg ((bj x).map .d),.d (.int .i64 since),.d (.int .i64 aN)],[]⟩
def LJ(w:aZ)(x:bA)(since aN:Int):St:=⟨[(2,.d (.int .i64 since)),(3,.d (.int .i64 aN)),(4,.ptr 4 0),(5,.ptr 5 0),(8,.ptr 8 0),(9,.ptr 9 0)],[(4,.box ((bu w).map .d)),(5,.box ((bj x).map .d)),(8,.box [.nil 1]),(9,.box [.d (.int .i64 0)])]⟩
theorem Ov(w:aZ)(x:bA)(since aN:Int):vcp iq [] pvW (Tryz.f29).ntmps PX (λ_=>False) (Fx po) (λe st=>match e with| .normal=>aq iq [] st (LJ w x since aN)|_=>False) (zo w x since aN):=by
 conv=>whnf
 exact aq.keep
theorem Ow(w:aZ)(x:bA)(since aN:Int)(hF:va w):vcp iq [100008,100009] pvW (Tryz.f29).ntmps PX (λ_=>False) (Fx (Cj po))
 (λe st=>match e with
  | .normal=>mC w x since aN=false/\aq iq [100008,100009] st (stS w x since aN)
  | .ret=>mC w x since aN=true/\aq iq [100008,100009] st ⟨[(8,.ptr 8 0),(9,.ptr 9 0)],[(8,.box [.nil 1]),(9,.box [.d (.int .i64 1)])]⟩
  |_=>False) (LJ w x since aN):=by
 conv=>whnf
 have hV:=jo (args:=[.agg (bu w),.agg (bj x)]) (pL w x hF)
 (refine⟨_,_,hV,?_⟩;conv=>whnf)
 repeat' (first|(refine aj (λh=>?_) (λh=>?_) <;> (rw[h];conv=>whnf))|fail)
 all_goals (refine⟨by unfold mC;simp only[*, if_true,if_false,aY],?_⟩)
 iterate 4
  .exact aq.keep
 exact aq.trans (aq.keep (sl:=(LJ w x since aN).aV) (h:=(LJ w x since aN).heap)) (aq.trans (aq.name 8 100008 rfl rfl) (aq.trans (aq.name 9 100009 rfl rfl) (aq.keep)))
theorem wm{w0 w5:World}{O:Nat->Prop}{fx:Nat->Option Nat}{df:List Deferred}{st:St}{τ:Nat->Value}{a:Act}(hs:bN iq ⟨(w0.heap.size<= ·),O,w0,85,fx,df⟩ st τ a w5){v0 x:AV}(hr:mF iq st (Tryz.f29).results.toList=some v0)(hx:dn3 v0=x)(h2:rS [] x=true) :
 ∃v,(results (Tryz.f29) a.tmps).run Tryz.prog w5= .ok v w5/\Below w0.heap.size w0 w5/\ ∃τ',Holds w5 (w0.heap.size<= ·) O [] τ' /\aG w5 O (live []) τ' x v:=by
 obtain⟨u,hu,ka⟩:=oH LU hs hr;have hf:=hs.frame;refine⟨u,hu,⟨hf.os,hf.tape,hf.output,hf.size,λk hk=>hf.block k (by show ¬w0.heap.size<=k;omega)⟩,τ,⟨λs b hb=>by simp[find]at hb,λs s' b hl=>by simp[live,find]at hl⟩,?_⟩;have h3:=wz (h:=[]) (λs hl=>by simp[live,find]at hl) (Jd ka) (by rw[hx];exact h2);rw[hx]at h3;exact h3
theorem qh(w:aZ)(x:bA)(since aN:Int)(hF:va w)(hn:w.ai.length<=20):FnC iq 29 [.agg ((bu w).map .d),.agg ((bj x).map .d),.d (.int .i64 since),.d (.int .i64 aN)]
 (ι:={q:List (List ao)×Int // jc w x since aN q}) (λq=> .tuple [.d (.slice 1 (q.1.1.map dC)),.d (.int .i64 q.1.2)]) (λ_=>[]):=by
 refine⟨⟨Tryz.f29,Tryz.func29,by kernel_rfl,rfl⟩,λO w0 vs hO hG hP hS hL=>?_⟩;refine calls_of_wp_defers (c:=po) Tryz.func29 rfl ?_;have hQ:jC iq w0:=hG;have hX:(Tryz.f29).ntmps=85:=rfl
 let E1:Env:=⟨(w0.heap.size<= ·),O,w0,85,λ_=>none,[]⟩
 have hR:Sim iq E1 (zo w x since aN) {tmps:=vs++Array.replicate ((Tryz.f29).ntmps-vs.size) Go.undef,defers:=[]} w0:=by
  refine⟨λ_=> .nilFunc,⟨rfl,rfl,rfl,Nat.le_refl _,λ_ _=>rfl⟩,λb hb=>hb,λb hb=>Nat.not_le.2 (hO b hb),rfl,?_,λt=>?_,⟨λs b hs=>by simp[zo,find]at hs,λs s' b hs=>by simp[zo,live,find]at hs⟩,hG,λg cells hg=>⟨Nat.not_le.2 (hG g cells hg).1,hP g cells hg⟩,λq0 B hB=>by cases hB⟩
  .show(vs++Array.replicate _ Go.undef).size=85
   have:vs.size=4:=hS;rw[hX];simp[this]
  .have hg:St.get (zo w x since aN) t=match ([.agg ((bu w).map .d),.agg ((bj x).map .d),.d (.int .i64 since),.d (.int .i64 aN)]:List AV)[t]? with|some v=>v|none=> .undef:=by
    unfold St.get zo;rw[oo,if_pos (Nat.zero_le _),Nat.sub_zero];cases ([.agg ((bu w).map .d),.agg ((bj x).map .d),.d (.int .i64 since),.d (.int .i64 aN)]:List AV)[t]? <;> rfl
   rw[hg];cases ht:([.agg ((bu w).map .d),.agg ((bj x).map .d),.d (.int .i64 since),.d (.int .i64 aN)]:List AV)[t]? with
   |none=>exact .undef _
   |some c =>
    have hW:t<vs.size:=by rw[hS];exact(aB.1 ht).1
    have:(vs++Array.replicate ((Tryz.f29).ntmps-vs.size) Go.undef).getD t Go.undef=vs.getD t Go.undef:=by simp[Array.getElem?_append,hW]
    rw[this];exact(hL t c ht).mono (bw.less λb hb=>by
     rcases hb with hb|⟨s,hl,_⟩
     .exact .inl hb
     .simp[zo,live,find]at hl) (λs hs=>hs.elim)
 generalize ({tmps:=vs++Array.replicate ((Tryz.f29).ntmps-vs.size) Go.undef,defers:=[]}:Act)=a0 at hR ⊢
 show(Code.seq (Fx po) (Code.seq (Fx (Cj po)) (Code.seq (Fx (Cj (Cj po))) ((gL 4 po).getD .skip)))).wp iq.P _ a0 w0
 have hi:∀l,zy l E1:=λl q _=>rfl
 refine wp_seq (Bq LU Ca (E:=E1) (fre:=[]) rfl (hi _) _ (Ov w x since aN) hR (λe st a1 w1 hq hM=>?_) (λ_ _ _ _ _ h=>h.elim));cases e <;> try exact hq.elim
 have hM:=hq E1 a1 w1 (hi _) hM;refine wp_seq (Bq LU Ca (E:=E1) (fre:=[100008,100009]) rfl (hi _) _ (Ow w x since aN hF) hM (λe st a2 w2 hq hd=>?_) (λ_ _ _ _ _ h=>h.elim));cases e with
 |exit id=>exact hq.elim
 |ret =>
  obtain⟨hI,hq⟩:=hq;obtain⟨σ,hd⟩:=hq E1 a2 w2 (hi _) hd;obtain⟨v,hv,ho,τ',hh,hE⟩:=wm hd (v0:= .tuple [.nil 1,.d (.int .i64 1)]) rfl rfl rfl;show Leaves _ _ a2.tmps _ a2.defers .returning w2
  rw[hd.defers];refine⟨v,hv,⟨([],1),?_⟩,v,τ',rfl,ho,hh,hE⟩;unfold jc;rw[if_pos hI]
 |normal =>
  obtain⟨hD,hq⟩:=hq;obtain⟨σ,hd⟩:=hq E1 a2 w2 (hi _) hd;obtain⟨B8,hT,t8,e8,F8,h8,s8,z8⟩:=hd.holds.blk 100008 _ rfl;obtain⟨B9,hU,t9,e9,F9,h9,s9,z9⟩:=hd.holds.blk 100009 _ rfl;have l8:live (stS w x since aN).heap 100008:=by unfold live;rfl
  have l9:live (stS w x since aN).heap 100009:=by unfold live;rfl
  have hK:B8≠B9:=λe=>by
   have:=hd.holds.inj 100008 100009 B8 l8 l9 (by rw[e8];rfl) (by rw[e9,e];rfl);cases this
  have v8:a2.tmps.getD 8 Go.undef= .pointer (some ⟨B8,0,none⟩):=by
   have h:aG w2 O (live (stS w x since aN).heap) σ (.ptr 100008 0) (a2.tmps.getD 8 Go.undef):=hd.aV 8;generalize a2.tmps.getD 8 Go.undef=u at h;cases h with|ptr _ _ b _ e=>rw[e8]at e;cases e;rfl
  have v9:a2.tmps.getD 9 Go.undef= .pointer (some ⟨B9,0,none⟩):=by
   have h:aG w2 O (live (stS w x since aN).heap) σ (.ptr 100009 0) (a2.tmps.getD 9 Go.undef):=hd.aV 9;generalize a2.tmps.getD 9 Go.undef=u at h;cases h with|ptr _ _ b _ e=>rw[e9]at e;cases e;rfl
  have n2:a2.tmps.size=85:=hd.nt;refine wp_seq (Fc (ops:=_) rfl rfl rfl rfl rfl rfl rfl (by rw[n2];omega) ?_);rw[v8,v9,show a2.defers=[]from hd.defers]
  let E2:Env:=⟨(w0.heap.size<= ·),O,w0,85,λq=>if q=100008 then some B8 else if q=100009 then some B9 else none,[{target:= .fn (.func 61) #[.pointer (some ⟨B8,0,none⟩),.pointer (some ⟨B9,0,none⟩)],args:= #[]}]⟩
  have kc:Sim iq E2 (stS w x since aN) {(a2.put (some 28) (.func (.func 61) #[] #[.pointer (some ⟨B8,0,none⟩),.pointer (some ⟨B9,0,none⟩)]))with defers:=[{target:= .fn (.func 61) #[.pointer (some ⟨B8,0,none⟩),.pointer (some ⟨B9,0,none⟩)],args:= #[]}]} w2:=by
   have h3:=hd.put (d:=some 28) (v:= .undef) (u:= .func (.func 61) #[] #[.pointer (some ⟨B8,0,none⟩),.pointer (some ⟨B9,0,none⟩)]) (λe he=>by cases he;show 28<85;omega) (.undef _);refine⟨σ,h3.frame,h3.new,h3.apart,rfl,h3.nt,λt=>?_,h3.holds,h3.fI,h3.dQ,λq0 B hB=>?_⟩
   .have:=h3.aV t;rw[St.fX]at this;by_cases e:some 28=some t
    .cases e;exact .undef _
    .rw[if_neg e]at this;exact this
   .have hB:(if q0=100008 then some B8 else if q0=100009 then some B9 else none)=some B:=hB;split at hB
    .rename_i e;subst e;cases hB;exact⟨⟨bB rfl,bB rfl⟩,λ_=>e8⟩
    .split at hB
     .rename_i e;subst e;cases hB;exact⟨⟨bB rfl,bB rfl⟩,λ_=>e9⟩
     .cases hB
  have ke:fQ w x=true:=by
   unfold mC at hD;simp only[Bool.or_eq_false_iff,Bool.not_eq_false']at hD;exact hD.1.1.1
  have hz :=ke;unfold fQ at hz;simp only[aU,Bool.not_eq_true',Bool.or_eq_false_iff,Bool.not_eq_false']at hz;obtain⟨⟨kd,_⟩,hc,hk⟩:=hz;have hC:zy [100034] E2:=λq hq=>by
   rw[List.mem_singleton.1 hq];rfl
  have hinv:∀w,(invoke (.fn (.func 61) #[.pointer (some ⟨B8,0,none⟩),.pointer (some ⟨B9,0,none⟩)]) #[]).run Tryz.prog w= .ok (.enter 61 #[.pointer (some ⟨B8,0,none⟩),.pointer (some ⟨B9,0,none⟩)]) w:=λw=>by kernel_rfl
  refine Bq LU Ca (E:=E2) (fre:=[100034]) rfl hC _ (IA w x since aN (λp hp=>(gN kd p hp).1) hn hF.ay hc hk) kc (λe st a4 w4 hq ha=>?_) (λst1 a4 w4 e he hq ha=>?_)
  .cases e <;> try exact hq.elim
   obtain⟨o,hZ,hq⟩:=hq;obtain⟨σ4,ha⟩:=hq E2 a4 w4 hC ha;show Leaves _ _ a4.tmps _ a4.defers .returning w4
   rw[ha.defers];refine leaves_cons (by simp) (hinv w4) ?_;refine(Ki _ _ w4 ha.nJ).mono ?_;rintro en u' w5 ⟨rfl,rfl,hy⟩;have hN:=ha.grow (bs:=[]) (d:=none) (v:= .undef) (u:=Go.undef) (σ' :=σ4) (w' :=w5) (λe he=>by cases he) (λs hl=>rfl) ⟨hy.os,hy.tape,hy.output,hy.size,λk hk=>hy.block k (by show ¬w4.heap.size<=k;omega)⟩ (λq0 B hB hl=>by simp[live,find]at hl) (λs b hl=>by simp[live,find]at hl) (λs s' b hl=>by simp[live,find]at hl) (λs b hb=>by simp[find]at hb) (.undef _)
   obtain⟨v,hv,ho,τ',hh,hE⟩:=wm hN (v0:= .tuple [.d (.slice 1 (o.bp.map dC)),.d (.int .i64 0)]) rfl rfl rfl;refine⟨v,hv,⟨(o.bp,0),?_⟩,v,τ',rfl,ho,hh,hE⟩;unfold jc;rw[if_neg (by rw[hD];decide),hZ]
  .obtain⟨hY,g8,g9,⟨c8,f8⟩,c9,f9⟩:=hq;obtain⟨σ4,ha⟩:=ha;show Leaves _ _ a4.tmps _ a4.defers (.panicking [{v:=pvW e,recovered:=false}]) w4
   rw[ha.defers];have k8:live st1.heap 100008:=aH.2 ⟨_,f8⟩;have k9:live st1.heap 100009:=aH.2 ⟨_,f9⟩;have x8:σ4 100008= .pointer (some ⟨B8,0,none⟩):=(ha.fix 100008 B8 rfl).2 k8;have x9:σ4 100009= .pointer (some ⟨B9,0,none⟩):=(ha.fix 100009 B9 rfl).2 k9;obtain⟨b8,y8,u8,p8,G8,q8,r8,_⟩:=ha.holds.blk 100008 _ f8;obtain⟨b9,y9,u9,p9,G9,q9,r9,_⟩:=ha.holds.blk 100009 _ f9;rw[x8]at p8;cases p8;rw[x9]at p9;cases p9;refine leaves_cons (by simp) (hinv w4) ?_;refine(Kh e B8 B9 y8 y9 u8 u9 w4 ha.nJ (λg cells hg=>?_) q8 q9 r8 r9 hK).mono ?_
   .obtain⟨g1,_⟩:=ha.dQ g cells hg;exact⟨λe=>g1 (e ▸ G8),λe=>g1 (e ▸ G9)⟩
   rintro en u' w5 ⟨rfl,rfl,hy,⟨d8,i8,j8,m8,n8⟩,d9,i9,j9,m9,n9⟩;have hA:=ha.frame;have G8:w0.heap.size<=B8:=G8;have G9:w0.heap.size<=B9:=G9;have hJ:∀s,live (yI (.nil 1) (.d (.int .i64 e))) s->s=100008\/s=100009:=λs hs=>by
    rcases cJ (bs:=[(100008,Blk.box [.nil 1])]) (h:=[(100009,Blk.box [.d (.int .i64 e)])]) |>.1 hs with h|h
    .exact .inl (cv.1 h)
    .exact .inr (cv.1 h)
   have kf :live (yI (.nil 1) (.d (.int .i64 e))) 100008:=by unfold live;rfl
   have kg :live (yI (.nil 1) (.d (.int .i64 e))) 100009:=by unfold live;rfl
   have w8:a4.tmps.getD 8 Go.undef= .pointer (some ⟨B8,0,none⟩):=by
    have h:=ha.aV 8;rw[g8]at h;generalize a4.tmps.getD 8 Go.undef=u at h;cases h with|ptr _ _ b _ e=>rw[x8]at e;cases e;rfl
   have w9:a4.tmps.getD 9 Go.undef= .pointer (some ⟨B9,0,none⟩):=by
    have h:=ha.aV 9;rw[g9]at h;generalize a4.tmps.getD 9 Go.undef=u at h;cases h with|ptr _ _ b _ e=>rw[x9]at e;cases e;rfl
   have hN:bN iq ⟨(w0.heap.size<= ·),O,w0,85,λ_=>none,[]⟩ ⟨[(8,.ptr 100008 0),(9,.ptr 100009 0)],yI (.nil 1) (.d (.int .i64 e))⟩ σ4 {tmps:=a4.tmps,defers:=[]} w5:=by
    refine⟨⟨hy.os.trans hA.os,hy.tape.trans hA.tape,hy.output.trans hA.output,Nat.le_trans hA.size hy.size,λb hb=>?_⟩,λb hb=>hb,λb hb=>Nat.not_le.2 (hO b hb),rfl,ha.nt,λt=>?_,⟨λs b hs=>?_,λs s' b hs kb k1 k2=>?_⟩,hG,λg cells hg=>⟨Nat.not_le.2 (hG g cells hg).1,hP g cells hg⟩,λq0 B hB=>by cases hB⟩
    .have hb:¬w0.heap.size<=b:=hb;have kh:w0.heap.size<=w4.heap.size:=hA.size;rw[hy.block b (by rintro(h|h|h) <;> omega)];exact hA.block b hb
    .unfold St.get;by_cases k:8=t
     .subst k;show aG _ _ _ _ (.ptr 100008 0) (a4.tmps.getD 8 Go.undef)
      rw[w8];exact .ptr _ 0 B8 kf x8
     .rw[bl _ _ k];by_cases k:9=t
      .subst k;show aG _ _ _ _ (.ptr 100009 0) (a4.tmps.getD 9 Go.undef)
       rw[w9];exact .ptr _ 0 B9 kg x9
      .rw[bl _ _ k];exact .undef _
    .rcases hJ s (aH.2 ⟨b,hs⟩)with rfl|rfl
     .cases hs;refine⟨B8,d8,i8,x8,G8,j8,m8,λj c hj=>?_⟩;rcases j with _|j
      .cases hj;rw[n8];exact⟨.inl rfl,.nil 1⟩
      .simp at hj
     .cases hs;refine⟨B9,d9,i9,x9,G9,j9,m9,λj c hj=>?_⟩;rcases j with _|j
      .cases hj;rw[n9];exact⟨.inl rfl,.d _ _ (.int _ _)⟩
      .simp at hj
    .rcases hJ s hs with rfl|rfl <;> rcases hJ s' kb with rfl|rfl
     .rfl
     .rw[x8]at k1;rw[x9]at k2;cases k1;cases k2;exact absurd rfl hK
     .rw[x9]at k1;rw[x8]at k2;cases k1;cases k2;exact absurd rfl hK
     .rfl
   obtain⟨v,hv,ho,τ',hh,hE⟩:=wm hN (v0:= .tuple [.nil 1,.d (.int .i64 e)]) rfl rfl rfl;refine⟨v,hv,⟨([],e),?_⟩,v,τ',rfl,ho,hh,hE⟩;unfold jc;rw[if_neg (by rw[hD];decide),hY];exact⟨rfl,he⟩
end Go.Proofs.YtodofogcincleaaGreatDoor
