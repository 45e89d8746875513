/-
  One text.
-/
import Derived.Test.YtodofogcincleaaGreatDoorMYzn
import Derived.Defers
set_option linter.all false
set_option maxRecDepth 100000
namespace Go.Proofs.YtodofogcincleaaGreatDoor
open NQ Go NP Go.RowKit
def lD(w:aL)(x:aY)(since till:Int):Bool:=((!eQ w x||decide (since<0))||decide (since>till))||decide (till>20000000)
def il(w:aL)(x:aY)(since till:Int)(q:List (List ai)×Int):Prop :=
 if lD w x since till=true then q=([],1)else match mu w x since till with
  |some o=>q=(o.stages,0)
  |none=>q.1=[]/\q.2≠0
def xP(w:aL)(x:aY)(since till:Int):St:=⟨jk 0 [.agg ((bn w).map .d),.agg ((aS x).map .d),.d (.int .i64 since),.d (.int .i64 till)],[]⟩
def JQ(w:aL)(x:aY)(since till:Int):St:=⟨[(2,.d (.int .i64 since)),(3,.d (.int .i64 till)),(4,.ptr 4 0),(5,.ptr 5 0),(8,.ptr 8 0),(9,.ptr 9 0)],[(4,.box ((bn w).map .d)),(5,.box ((aS x).map .d)),(8,.box [.nil 1]),(9,.box [.d (.int .i64 0)])]⟩
theorem Mn(w:aL)(x:aY)(since till:Int):vcp gE [] pvW (Tryz.f29).ntmps NN (λ_=>False) (DM oD) (λe st=>match e with| .normal=>ah gE [] st (JQ w x since till)|_=>False) (xP w x since till):=by
 conv=>whnf
 exact ah.keep
theorem Mo(w:aL)(x:aY)(since till:Int)(hF:tR w):vcp gE [100008,100009] pvW (Tryz.f29).ntmps NN (λ_=>False) (DM (AK oD))
 (λe st=>match e with
  | .normal=>lD w x since till=false/\ah gE [100008,100009] st (stS w x since till)
  | .ret=>lD w x since till=true/\ah gE [100008,100009] st ⟨[(8,.ptr 8 0),(9,.ptr 9 0)],[(8,.box [.nil 1]),(9,.box [.d (.int .i64 1)])]⟩
  |_=>False) (JQ w x since till):=by
 conv=>whnf
 have hV:=iB (args:=[.agg (bn w),.agg (aS x)]) (oS w x hF)
 (refine⟨_,_,hV,?_⟩;conv=>whnf)
 repeat' (first|(refine af (λh=>?_) (λh=>?_) <;> (rw[h];conv=>whnf))|fail)
 all_goals (refine⟨by unfold lD;simp only[*, if_true,if_false,aK],?_⟩)
 iterate 4
  . exact ah.keep
 exact ah.trans (ah.keep (sl:=(JQ w x since till).slots) (h:=(JQ w x since till).heap)) (ah.trans (ah.name 8 100008 rfl rfl) (ah.trans (ah.name 9 100009 rfl rfl) (ah.keep)))
theorem uS{w0 w5:World}{O:Nat->Prop}{fx:Nat->Option Nat}{df:List Deferred}{st:St}{τ:Nat->Value}{a:Act}(hs:bq gE ⟨(w0.heap.size<= ·),O,w0,85,fx,df⟩ st τ a w5){v0 x:AV}(hr:lG gE st (Tryz.f29).results.toList=some v0)(hx:dn3 v0=x)(h2:qU [] x=true) :
 ∃v,(results (Tryz.f29) a.tmps).run Tryz.prog w5= .ok v w5/\Below w0.heap.size w0 w5/\ ∃τ',Holds w5 (w0.heap.size<= ·) O [] τ' /\au w5 O (live []) τ' x v:=by
 obtain⟨u,hu,hru⟩:=nJ Kb hs hr;have hf:=hs.frame;refine⟨u,hu,⟨hf.os,hf.tape,hf.output,hf.size,λk hk=>hf.block k (by show ¬w0.heap.size<=k;omega)⟩,τ,⟨λs b hb=>by simp[find]at hb,λs s' b hl=>by simp[live,find]at hl⟩,?_⟩;have h3:=uY (h:=[]) (λs hl=>by simp[live,find]at hl) (GP hru) (by rw[hx];exact h2);rw[hx]at h3;exact h3
theorem px(w:aL)(x:aY)(since till:Int)(hF:tR w)(hn:w.zones.length<=20):FnC gE 29 [.agg ((bn w).map .d),.agg ((aS x).map .d),.d (.int .i64 since),.d (.int .i64 till)]
 (ι:={q:List (List ai)×Int // il w x since till q}) (λq=> .tuple [.d (.slice 1 (q.1.1.map bV)),.d (.int .i64 q.1.2)]) (λ_=>[]):=by
 refine⟨⟨Tryz.f29,Tryz.func29,by kernel_rfl,rfl⟩,λO w0 vs hO hG hGO hsz hrep=>?_⟩;refine calls_of_wp_defers (c:=oD) Tryz.func29 rfl ?_;have hGlob:iN gE w0:=hG;have hnt:(Tryz.f29).ntmps=85:=rfl
 let E1:Env:=⟨(w0.heap.size<= ·),O,w0,85,λ_=>none,[]⟩
 have hs0:Sim gE E1 (xP w x since till) {tmps:=vs++Array.replicate ((Tryz.f29).ntmps-vs.size) Go.undef,defers:=[]} w0:=by
  refine⟨λ_=> .nilFunc,⟨rfl,rfl,rfl,Nat.le_refl _,λ_ _=>rfl⟩,λb hb=>hb,λb hb=>Nat.not_le.2 (hO b hb),rfl,?_,λt=>?_,⟨λs b hs=>by simp[xP,find]at hs,λs s' b hs=>by simp[xP,live,find]at hs⟩,hG,λg cells hg=>⟨Nat.not_le.2 (hG g cells hg).1,hGO g cells hg⟩,λq0 B hB=>by cases hB⟩
  . show(vs++Array.replicate _ Go.undef).size=85
    have:vs.size=4:=hsz;rw[hnt];simp[this]
  . have hg:St.get (xP w x since till) t=match ([.agg ((bn w).map .d),.agg ((aS x).map .d),.d (.int .i64 since),.d (.int .i64 till)]:List AV)[t]? with|some v=>v|none=> .undef:=by
     unfold St.get xP;rw[ny,if_pos (Nat.zero_le _),Nat.sub_zero];cases ([.agg ((bn w).map .d),.agg ((aS x).map .d),.d (.int .i64 since),.d (.int .i64 till)]:List AV)[t]? <;> rfl
    rw[hg];cases ht:([.agg ((bn w).map .d),.agg ((aS x).map .d),.d (.int .i64 since),.d (.int .i64 till)]:List AV)[t]? with
    |none=>exact .undef _
    |some c =>
     have hlt:t<vs.size:=by rw[hsz];exact(aq.1 ht).1
     have:(vs++Array.replicate ((Tryz.f29).ntmps-vs.size) Go.undef).getD t Go.undef=vs.getD t Go.undef:=by simp[Array.getElem?_append,hlt]
     rw[this];exact(hrep t c ht).mono (aU.less λb hb=>by
      rcases hb with hb|⟨s,hl,_⟩
      . exact .inl hb
      . simp[xP,live,find]at hl) (λs hs=>hs.elim)
 generalize ({tmps:=vs++Array.replicate ((Tryz.f29).ntmps-vs.size) Go.undef,defers:=[]}:Act)=a0 at hs0 ⊢
 show(Code.seq (DM oD) (Code.seq (DM (AK oD)) (Code.seq (DM (AK (AK oD))) ((fG 4 oD).getD .skip)))).wp gE.P _ a0 w0
 have fre1:∀l,xV l E1:=λl q _=>rfl
 refine wp_seq (zN Kb AA (E:=E1) (fre:=[]) rfl (fre1 _) _ (Mn w x since till) hs0 (λe st a1 w1 hq hs1=>?_) (λ_ _ _ _ _ h=>h.elim));cases e <;> try exact hq.elim
 have hs1:=hq E1 a1 w1 (fre1 _) hs1;refine wp_seq (zN Kb AA (E:=E1) (fre:=[100008,100009]) rfl (fre1 _) _ (Mo w x since till hF) hs1 (λe st a2 w2 hq hs2=>?_) (λ_ _ _ _ _ h=>h.elim));cases e with
 |exit id=>exact hq.elim
 |ret =>
  obtain⟨hbad,hq⟩:=hq;obtain⟨σ,hs2⟩:=hq E1 a2 w2 (fre1 _) hs2;obtain⟨v,hv,hbel,τ',hh,hrp⟩:=uS hs2 (v0:= .tuple [.nil 1,.d (.int .i64 1)]) rfl rfl rfl;show Leaves _ _ a2.tmps _ a2.defers .returning w2
  rw[hs2.defers];refine⟨v,hv,⟨([],1),?_⟩,v,τ',rfl,hbel,hh,hrp⟩;unfold il;rw[if_pos hbad]
 |normal =>
  obtain⟨hok,hq⟩:=hq;obtain⟨σ,hs2⟩:=hq E1 a2 w2 (fre1 _) hs2;obtain⟨B8,cur8,t8,e8,F8,h8,s8,z8⟩:=hs2.holds.blk 100008 _ rfl;obtain⟨B9,cur9,t9,e9,F9,h9,s9,z9⟩:=hs2.holds.blk 100009 _ rfl;have l8:live (stS w x since till).heap 100008:=by unfold live;rfl
  have l9:live (stS w x since till).heap 100009:=by unfold live;rfl
  have hne:B8≠B9:=λe=>by
   have:=hs2.holds.inj 100008 100009 B8 l8 l9 (by rw[e8];rfl) (by rw[e9,e];rfl);cases this
  have v8:a2.tmps.getD 8 Go.undef= .pointer (some ⟨B8,0,none⟩):=by
   have h:au w2 O (live (stS w x since till).heap) σ (.ptr 100008 0) (a2.tmps.getD 8 Go.undef):=hs2.slots 8;generalize a2.tmps.getD 8 Go.undef=u at h;cases h with|ptr _ _ b _ e=>rw[e8]at e;cases e;rfl
  have v9:a2.tmps.getD 9 Go.undef= .pointer (some ⟨B9,0,none⟩):=by
   have h:au w2 O (live (stS w x since till).heap) σ (.ptr 100009 0) (a2.tmps.getD 9 Go.undef):=hs2.slots 9;generalize a2.tmps.getD 9 Go.undef=u at h;cases h with|ptr _ _ b _ e=>rw[e9]at e;cases e;rfl
  have n2:a2.tmps.size=85:=hs2.nt;refine wp_seq (Du (ops:=_) rfl rfl rfl rfl rfl rfl rfl (by rw[n2];omega) ?_);rw[v8,v9,show a2.defers=[]from hs2.defers]
  let E2:Env:=⟨(w0.heap.size<= ·),O,w0,85,λq=>if q=100008 then some B8 else if q=100009 then some B9 else none,[{target:= .fn (.func 61) #[.pointer (some ⟨B8,0,none⟩),.pointer (some ⟨B9,0,none⟩)],args:= #[]}]⟩
  have hs3:Sim gE E2 (stS w x since till) {(a2.put (some 28) (.func (.func 61) #[] #[.pointer (some ⟨B8,0,none⟩),.pointer (some ⟨B9,0,none⟩)]))with defers:=[{target:= .fn (.func 61) #[.pointer (some ⟨B8,0,none⟩),.pointer (some ⟨B9,0,none⟩)],args:= #[]}]} w2:=by
   have h3:=hs2.put (d:=some 28) (v:= .undef) (u:= .func (.func 61) #[] #[.pointer (some ⟨B8,0,none⟩),.pointer (some ⟨B9,0,none⟩)]) (λe he=>by cases he;show 28<85;omega) (.undef _);refine⟨σ,h3.frame,h3.new,h3.apart,rfl,h3.nt,λt=>?_,h3.holds,h3.glob,h3.globF,λq0 B hB=>?_⟩
   . have:=h3.slots t;rw[St.eV]at this;by_cases e:some 28=some t
     . cases e;exact .undef _
     . rw[if_neg e]at this;exact this
   . have hB:(if q0=100008 then some B8 else if q0=100009 then some B9 else none)=some B:=hB;split at hB
     . rename_i e;subst e;cases hB;exact⟨⟨ag rfl,ag rfl⟩,λ_=>e8⟩
     . split at hB
       . rename_i e;subst e;cases hB;exact⟨⟨ag rfl,ag rfl⟩,λ_=>e9⟩
       . cases hB
  have hvx:eQ w x=true:=by
   unfold lD at hok;simp only[Bool.or_eq_false_iff,Bool.not_eq_false']at hok;exact hok.1.1.1
  have hvx' :=hvx;unfold eQ at hvx';simp only[aH,Bool.not_eq_true',Bool.or_eq_false_iff,Bool.not_eq_false']at hvx';obtain⟨⟨hvw,_⟩,hc,hk⟩:=hvx';have fre2:xV [100034] E2:=λq hq=>by
   rw[List.mem_singleton.1 hq];rfl
  have hinv:∀w,(invoke (.fn (.func 61) #[.pointer (some ⟨B8,0,none⟩),.pointer (some ⟨B9,0,none⟩)]) #[]).run Tryz.prog w= .ok (.enter 61 #[.pointer (some ⟨B8,0,none⟩),.pointer (some ⟨B9,0,none⟩)]) w:=λw=>by kernel_rfl
  refine zN Kb AA (E:=E2) (fre:=[100034]) rfl fre2 _ (Gl w x since till (λp hp=>(gY hvw p hp).1) hn hF.hosts hc hk) hs3 (λe st a4 w4 hq hs4=>?_) (λst1 a4 w4 e he hq hs4=>?_)
  . cases e <;> try exact hq.elim
    obtain⟨o,hro,hq⟩:=hq;obtain⟨σ4,hs4⟩:=hq E2 a4 w4 fre2 hs4;show Leaves _ _ a4.tmps _ a4.defers .returning w4
    rw[hs4.defers];refine leaves_cons (by simp) (hinv w4) ?_;refine(Io _ _ w4 hs4.mU).mono ?_;rintro en u' w5 ⟨rfl,rfl,hfr⟩;have hs5:=hs4.grow (bs:=[]) (d:=none) (v:= .undef) (u:=Go.undef) (σ' :=σ4) (w' :=w5) (λe he=>by cases he) (λs hl=>rfl) ⟨hfr.os,hfr.tape,hfr.output,hfr.size,λk hk=>hfr.block k (by show ¬w4.heap.size<=k;omega)⟩ (λq0 B hB hl=>by simp[live,find]at hl) (λs b hl=>by simp[live,find]at hl) (λs s' b hl=>by simp[live,find]at hl) (λs b hb=>by simp[find]at hb) (.undef _)
    obtain⟨v,hv,hbel,τ',hh,hrp⟩:=uS hs5 (v0:= .tuple [.d (.slice 1 (o.stages.map bV)),.d (.int .i64 0)]) rfl rfl rfl;refine⟨v,hv,⟨(o.stages,0),?_⟩,v,τ',rfl,hbel,hh,hrp⟩;unfold il;rw[if_neg (by rw[hok];decide),hro]
  . obtain⟨hrn,g8,g9,⟨c8,f8⟩,c9,f9⟩:=hq;obtain⟨σ4,hs4⟩:=hs4;show Leaves _ _ a4.tmps _ a4.defers (.panicking [{v:=pvW e,recovered:=false}]) w4
    rw[hs4.defers];have k8:live st1.heap 100008:=ax.2 ⟨_,f8⟩;have k9:live st1.heap 100009:=ax.2 ⟨_,f9⟩;have x8:σ4 100008= .pointer (some ⟨B8,0,none⟩):=(hs4.fix 100008 B8 rfl).2 k8;have x9:σ4 100009= .pointer (some ⟨B9,0,none⟩):=(hs4.fix 100009 B9 rfl).2 k9;obtain⟨b8,y8,u8,p8,G8,q8,r8,_⟩:=hs4.holds.blk 100008 _ f8;obtain⟨b9,y9,u9,p9,G9,q9,r9,_⟩:=hs4.holds.blk 100009 _ f9;rw[x8]at p8;cases p8;rw[x9]at p9;cases p9;refine leaves_cons (by simp) (hinv w4) ?_;refine(Im e B8 B9 y8 y9 u8 u9 w4 hs4.mU (λg cells hg=>?_) q8 q9 r8 r9 hne).mono ?_
    . obtain⟨g1,_⟩:=hs4.globF g cells hg;exact⟨λe=>g1 (e ▸ G8),λe=>g1 (e ▸ G9)⟩
    rintro en u' w5 ⟨rfl,rfl,hfr,⟨d8,i8,j8,m8,n8⟩,d9,i9,j9,m9,n9⟩;have hF4:=hs4.frame;have G8:w0.heap.size<=B8:=G8;have G9:w0.heap.size<=B9:=G9;have hlv:∀s,live (xm (.nil 1) (.d (.int .i64 e))) s->s=100008\/s=100009:=λs hs=>by
     rcases bW (bs:=[(100008,Blk.box [.nil 1])]) (h:=[(100009,Blk.box [.d (.int .i64 e)])]) |>.1 hs with h|h
     . exact .inl (bH.1 h)
     . exact .inr (bH.1 h)
    have m8' :live (xm (.nil 1) (.d (.int .i64 e))) 100008:=by unfold live;rfl
    have m9' :live (xm (.nil 1) (.d (.int .i64 e))) 100009:=by unfold live;rfl
    have w8:a4.tmps.getD 8 Go.undef= .pointer (some ⟨B8,0,none⟩):=by
     have h:=hs4.slots 8;rw[g8]at h;generalize a4.tmps.getD 8 Go.undef=u at h;cases h with|ptr _ _ b _ e=>rw[x8]at e;cases e;rfl
    have w9:a4.tmps.getD 9 Go.undef= .pointer (some ⟨B9,0,none⟩):=by
     have h:=hs4.slots 9;rw[g9]at h;generalize a4.tmps.getD 9 Go.undef=u at h;cases h with|ptr _ _ b _ e=>rw[x9]at e;cases e;rfl
    have hs5:bq gE ⟨(w0.heap.size<= ·),O,w0,85,λ_=>none,[]⟩ ⟨[(8,.ptr 100008 0),(9,.ptr 100009 0)],xm (.nil 1) (.d (.int .i64 e))⟩ σ4 {tmps:=a4.tmps,defers:=[]} w5:=by
     refine⟨⟨hfr.os.trans hF4.os,hfr.tape.trans hF4.tape,hfr.output.trans hF4.output,Nat.le_trans hF4.size hfr.size,λb hb=>?_⟩,λb hb=>hb,λb hb=>Nat.not_le.2 (hO b hb),rfl,hs4.nt,λt=>?_,⟨λs b hs=>?_,λs s' b hs hs' k1 k2=>?_⟩,hG,λg cells hg=>⟨Nat.not_le.2 (hG g cells hg).1,hGO g cells hg⟩,λq0 B hB=>by cases hB⟩
     . have hb:¬w0.heap.size<=b:=hb;have h45:w0.heap.size<=w4.heap.size:=hF4.size;rw[hfr.block b (by rintro(h|h|h) <;> omega)];exact hF4.block b hb
     . unfold St.get;by_cases k:8=t
       . subst k;show au _ _ _ _ (.ptr 100008 0) (a4.tmps.getD 8 Go.undef)
         rw[w8];exact .ptr _ 0 B8 m8' x8
       . rw[aQ _ _ k];by_cases k:9=t
         . subst k;show au _ _ _ _ (.ptr 100009 0) (a4.tmps.getD 9 Go.undef)
           rw[w9];exact .ptr _ 0 B9 m9' x9
         . rw[aQ _ _ k];exact .undef _
     . rcases hlv s (ax.2 ⟨b,hs⟩)with rfl|rfl
       . cases hs;refine⟨B8,d8,i8,x8,G8,j8,m8,λj c hj=>?_⟩;rcases j with _|j
         . cases hj;rw[n8];exact⟨.inl rfl,.nil 1⟩
         . simp at hj
       . cases hs;refine⟨B9,d9,i9,x9,G9,j9,m9,λj c hj=>?_⟩;rcases j with _|j
         . cases hj;rw[n9];exact⟨.inl rfl,.d _ _ (.int _ _)⟩
         . simp at hj
     . rcases hlv s hs with rfl|rfl <;> rcases hlv s' hs' with rfl|rfl
       . rfl
       . rw[x8]at k1;rw[x9]at k2;cases k1;cases k2;exact absurd rfl hne
       . rw[x9]at k1;rw[x8]at k2;cases k1;cases k2;exact absurd rfl hne
       . rfl
    obtain⟨v,hv,hbel,τ',hh,hrp⟩:=uS hs5 (v0:= .tuple [.nil 1,.d (.int .i64 e)]) rfl rfl rfl;refine⟨v,hv,⟨([],e),?_⟩,v,τ',rfl,hbel,hh,hrp⟩;unfold il;rw[if_neg (by rw[hok];decide),hrn];exact⟨rfl,he⟩
end Go.Proofs.YtodofogcincleaaGreatDoor
