/-
  Merged texts.
-/
import Derived.Test.YtjojkakjmoefaaaGreatDoorMYzm
import Derived.Defers
set_option linter.all false
set_option maxHeartbeats 8000000
set_option maxRecDepth 100000
namespace Go.Proofs.YtjojkakjmoefaaaGreatDoor
open NQ Go.RowKit
def oG(w:aQ)(x:bG)(since aT:Int):Bool:=((!gD w x||decide (since<0))||decide (since>aT))||decide (aT>20000000)
def kv(w:aQ)(x:bG)(since aT:Int)(q:List (List al)×Int):Prop :=
 if oG w x since aT=true then q=([],1)else match py w x since aT with
  |some o=>q=(o.bu,0)
  |none=>q.1=[]/\q.2≠0
def CK(w:aQ)(x:bG)(since aT:Int):St:=⟨lQ 0 [.agg<|(bF w).map .d,.agg<|(bw x).map .d,aj since,aj aT],[]⟩
def Sf(w:aQ)(x:bG)(since aT:Int):St:=⟨[(2,aj since),(3,aj aT),(4,.ptr 4 0),(5,.ptr 5 0),(8,.ptr 8 0),(9,.ptr 9 0)],[(4,.box<|(bF w).map .d),(5,.box<|(bw x).map .d),(8,.box [.nil 1]),(9,.box [aj 0])]⟩
def Vb(w:aQ)(x:bG)(since aT:Int):vcp jt [] pvW (Tryz.f15).ntmps WV (λ_=>False) (Km se) (λe st=>match e with| .normal=>aq jt [] st<|Sf w x since aT|_=>False)<|CK w x since aT:=by
 conv=>whnf
 exact aq.keep
def Vc(w:aQ)(x:bG)(since aT:Int)(j:yD w):vcp jt [100008,100009] pvW (Tryz.f15).ntmps WV (λ_=>False) (Km<|Gb se)
 (λe st=>match e with
  | .normal=>oG w x since aT=false/\aq jt [100008,100009] st (stS w x since aT)
  | .ret=>oG w x since aT=true/\aq jt [100008,100009] st ⟨[(8,.ptr 8 0),(9,.ptr 9 0)],[(8,.box [.nil 1]),(9,.box [aj 1])]⟩
  |_=>False) (Sf w x since aT):=by
 conv=>whnf
 have D:=kF (args:=[.agg<|bF w,.agg<|bw x]) (sF w x j)
 (refine⟨_,_,D,M ?_⟩)
 repeat' (first|(refine aD ?_ ?_<;>intro h)|fail)
 all_goals (refine⟨by unfold oG;simp only[*, if_true,if_false,aX],?_⟩)
 iterate 4
  .exact aq.keep
 exact aq.trans (aq.keep (sl:=(Sf w x since aT).aY) (h:=(Sf w x since aT).heap))<|aq.trans (aq.name 8 100008 rfl rfl)<|aq.trans (aq.name 9 100009 rfl rfl)<|aq.keep
def zF{w0 j:World}{O:Nat->Prop}{U:Nat->Option Nat}{T:List Deferred}{st:St}{τ:Nat->Value}{a:Act}(J:bS jt ⟨(w0.heap.size<= ·),O,w0,85,U,T⟩ st τ a j){v0 x:AV}(X:nN jt st (Tryz.f15).results.toList=some v0)(K:dn3 v0=x)(V:sY [] x=true) :
 ∃v,(results (Tryz.f15) a.tmps).run Tryz.prog j= .ok v j/\Below w0.heap.size w0 j/\ ∃N,Holds j (w0.heap.size<= ·) O [] N /\aC j O (live []) N x v:=by
 obtain⟨u,Y,H⟩:=qW Sr J X;have D:=J.frame;refine⟨u,Y,⟨D.os,D.tape,D.output,D.size,λk Z=>D.block k<|by show ¬w0.heap.size<=k;omega⟩,τ,⟨λs b W=>by simp[find]at W,λs s' b G=>by simp[live,find]at G⟩,?_⟩;have I:=vf (h:=[]) (λs G=>by simp[live,find]at G) (OZ H) (by rw[K];exact V);rw[K]at I;exact I
def tq(w:aQ)(x:bG)(since aT:Int)(hF:yD w)(hn:w.ah.length<=20):FnC jt 15 [.agg<|(bF w).map .d,.agg<|(bw x).map .d,aj since,aj aT]
 (ι:={q:List (List al)×Int // kv w x since aT q}) (λq=> .tuple [.d<|.slice 1<|q.1.1.map dK,aj q.1.2]) (λ_=>[]):=by
 refine⟨⟨Tryz.f15,Tryz.func15,by kernel_rfl,rfl⟩,λO w0 vs hO hG ke kl hQ=>?_⟩;refine calls_of_wp_defers (c:=se) Tryz.func15 rfl ?_;have kg:jO jt w0:=hG;have hN:(Tryz.f15).ntmps=85:=rfl
 let E1:Env:=⟨(w0.heap.size<= ·),O,w0,85,λ_=>none,[]⟩
 have kk:Sim jt E1 (CK w x since aT) {tmps:=vs++Array.replicate ((Tryz.f15).ntmps-vs.size) Go.undef,defers:=[]} w0:=by
  refine⟨λ_=> .nilFunc,⟨rfl,rfl,rfl,Nat.le_refl _,λ_ _=>rfl⟩,λb T=>T,λb T=>Nat.not_le.2<|hO b T,rfl,?_,λt=>?_,⟨λs b Y=>by simp[CK,find]at Y,λs s' b Y=>by simp[CK,live,find]at Y⟩,hG,λg cells hg=>⟨Nat.not_le.2 (hG g cells hg).1,ke g cells hg⟩,λq0 B Z=>by cases Z⟩
  .show(vs++Array.replicate _ Go.undef).size=85
   have:vs.size=4:=kl;rw[hN];simp[this]
  .have hg:St.get (CK w x since aT) t=match ([.agg<|(bF w).map .d,.agg<|(bw x).map .d,aj since,aj aT]:List AV)[t]? with|some v=>v|none=> .undef:=by
    unfold St.get CK;rw[qI,if_pos<|Nat.zero_le _,Nat.sub_zero];cases ([.agg<|(bF w).map .d,.agg<|(bw x).map .d,aj since,aj aT]:List AV)[t]?<;>rfl
   rw[hg];cases ht:([.agg<|(bF w).map .d,.agg<|(bw x).map .d,aj since,aj aT]:List AV)[t]? with
   |none=>exact .undef _
   |some c =>
    have kZ:t<vs.size:=by rw[kl];exact(aA.1 ht).1
    have:(vs++Array.replicate ((Tryz.f15).ntmps-vs.size) Go.undef).getD t Go.undef=vs.getD t Go.undef:=by simp[Array.getElem?_append,kZ]
    rw[this];exact(hQ t c ht).mono (bx.less λb T=>by
     rcases T with T|⟨s,hl,_⟩
     .exact .inl T
     .simp[CK,live,find]at hl) λs Y=>Y.elim
 generalize ({tmps:=vs++Array.replicate ((Tryz.f15).ntmps-vs.size) Go.undef,defers:=[]}:Act)=a0 at kk ⊢
 show(Code.seq (Km se)<|Code.seq (Km<|Gb se)<|Code.seq (Km<|Gb<|Gb se)<|(iH 4 se).getD .skip).wp jt.P _ a0 w0
 have N:∀l,CQ l E1:=λl q _=>rfl
 refine wp_seq (EU Sr FN (E:=E1) (fre:=[]) rfl (N _) _ (Vb w x since aT) kk (λe st a1 w1 I hU=>?_) λ_ _ _ _ _ h=>h.elim);cases e<;>try exact I.elim
 have hU:=I E1 a1 w1 (N _) hU;refine wp_seq (EU Sr FN (E:=E1) (fre:=[100008,100009]) rfl (N _) _ (Vc w x since aT hF) hU (λe st V w2 I G=>?_) λ_ _ _ _ _ h=>h.elim);cases e with
 |exit id=>exact I.elim
 |ret =>
  obtain⟨hM,I⟩:=I;obtain⟨σ,G⟩:=I E1 V w2 (N _) G;obtain⟨v,hv,U,τ',hh,hK⟩:=zF G (v0:= .tuple [.nil 1,aj 1]) rfl rfl rfl;show Leaves _ _ V.tmps _ V.defers .returning w2
  rw[G.defers];refine⟨v,hv,⟨([],1),?_⟩,v,τ',rfl,U,hh,hK⟩;unfold kv;rw[if_pos hM]
 |normal =>
  obtain⟨hB,I⟩:=I;obtain⟨σ,G⟩:=I E1 V w2 (N _) G;obtain⟨J,kA,t8,e8,F8,h8,s8,z8⟩:=G.holds.blk 100008 _ rfl;obtain⟨K,kB,t9,e9,F9,h9,s9,z9⟩:=G.holds.blk 100009 _ rfl;have l8:live (stS w x since aT).heap 100008:=by unfold live;rfl
  have l9:live (stS w x since aT).heap 100009:=by unfold live;rfl
  have hd:J≠K:=λe=>by
   have:=G.holds.inj 100008 100009 J l8 l9 (by rw[e8];rfl) (by rw[e9,e];rfl);cases this
  have v8:V.tmps.getD 8 Go.undef= .pointer (some ⟨J,0,none⟩):=by
   have h:aC w2 O (live (stS w x since aT).heap) σ (.ptr 100008 0)<|V.tmps.getD 8 Go.undef:=G.aY 8;generalize V.tmps.getD 8 Go.undef=u at h;cases h with|ptr _ _ b _ e=>rw[e8]at e;cases e;rfl
  have v9:V.tmps.getD 9 Go.undef= .pointer (some ⟨K,0,none⟩):=by
   have h:aC w2 O (live (stS w x since aT).heap) σ (.ptr 100009 0)<|V.tmps.getD 9 Go.undef:=G.aY 9;generalize V.tmps.getD 9 Go.undef=u at h;cases h with|ptr _ _ b _ e=>rw[e9]at e;cases e;rfl
  have n2:V.tmps.size=85:=G.nt;refine wp_seq<|JV (ops:=_) rfl rfl rfl rfl rfl rfl rfl (by rw[n2];omega) ?_;rw[v8,v9,show V.defers=[]from G.defers]
  let E2:Env:=⟨(w0.heap.size<= ·),O,w0,85,λq=>if q=100008 then some J else if q=100009 then some K else none,[{target:= .fn (.func 32) #[.pointer<|some ⟨J,0,none⟩,.pointer<|some ⟨K,0,none⟩],args:= #[]}]⟩
  have xg:Sim jt E2 (stS w x since aT) {(V.put (some 28)<|.func (.func 32) #[] #[.pointer<|some ⟨J,0,none⟩,.pointer<|some ⟨K,0,none⟩])with defers:=[{target:= .fn (.func 32) #[.pointer<|some ⟨J,0,none⟩,.pointer<|some ⟨K,0,none⟩],args:= #[]}]} w2:=by
   have h3:=G.put (d:=some 28) (v:= .undef) (u:= .func (.func 32) #[] #[.pointer<|some ⟨J,0,none⟩,.pointer<|some ⟨K,0,none⟩]) (λe he=>by cases he;show 28<85;omega)<|.undef _;refine⟨σ,h3.frame,h3.new,h3.apart,rfl,h3.nt,λt=>?_,h3.holds,h3.gR,h3.ee,λq0 B Z=>?_⟩
   .have:=h3.aY t;rw[St.gY]at this;by_cases e:some 28=some t
    .cases e;exact .undef _
    .rw[if_neg e]at this;exact this
   .have Z:(if q0=100008 then some J else if q0=100009 then some K else none)=some B:=Z;split at Z
    .rename_i e;subst e;cases Z;exact⟨⟨bA rfl,bA rfl⟩,λ_=>e8⟩
    .split at Z
     .rename_i e;subst e;cases Z;exact⟨⟨bA rfl,bA rfl⟩,λ_=>e9⟩
     .cases Z
  have xl:gD w x=true:=by
   unfold oG at hB;simp only[Bool.or_eq_false_iff,Bool.not_eq_false']at hB;exact hB.1.1.1
  have hC :=xl;unfold gD at hC;simp only[aK,Bool.not_eq_true',Bool.or_eq_false_iff,Bool.not_eq_false']at hC;obtain⟨⟨xj,_⟩,hc,hk⟩:=hC;have hD:CQ [100034] E2:=λq I=>by
   rw[List.mem_singleton.1 I];rfl
  have hinv:∀w,(invoke (.fn (.func 32) #[.pointer<|some ⟨J,0,none⟩,.pointer<|some ⟨K,0,none⟩]) #[]).run Tryz.prog w= .ok (.enter 32 #[.pointer<|some ⟨J,0,none⟩,.pointer<|some ⟨K,0,none⟩]) w:=λw=>by kernel_rfl
  refine EU Sr FN (E:=E2) (fre:=[100034]) rfl hD _ (On w x since aT (λp hp=>(di xj p hp).1) hn hF.ar hc hk) xg (λe st W w4 I D=>?_) λst1 W w4 e he I D=>?_
  .cases e<;>try exact I.elim
   obtain⟨o,xe,I⟩:=I;obtain⟨σ4,D⟩:=I E2 W w4 hD D;show Leaves _ _ W.tmps _ W.defers .returning w4
   rw[D.defers];refine leaves_cons (by simp) (hinv w4) ?_;refine(Qn _ _ w4 D.qj).mono ?_;rintro en u' w5 ⟨rfl,rfl,H⟩;have hV:=D.grow (bs:=[]) (d:=none) (v:= .undef) (u:=Go.undef) (σ' :=σ4) (w' :=w5) (λe he=>by cases he) (λs hl=>rfl) ⟨H.os,H.tape,H.output,H.size,λk hk=>H.block k<|by show ¬w4.heap.size<=k;omega⟩ (λq0 B Z hl=>by simp[live,find]at hl) (λs b hl=>by simp[live,find]at hl) (λs s' b hl=>by simp[live,find]at hl) (λs b T=>by simp[find]at T)<|.undef _
   obtain⟨v,hv,U,τ',hh,hK⟩:=zF hV (v0:= .tuple [.d<|.slice 1<|o.bu.map dK,aj 0]) rfl rfl rfl;refine⟨v,hv,⟨(o.bu,0),?_⟩,v,τ',rfl,U,hh,hK⟩;unfold kv;rw[if_neg<|by rw[hB];decide,xe]
  .obtain⟨xd,g8,g9,⟨c8,f8⟩,c9,f9⟩:=I;obtain⟨σ4,D⟩:=D;show Leaves _ _ W.tmps _ W.defers (.panicking [{v:=pvW e,recovered:=false}]) w4
   rw[D.defers];have k8:live st1.heap 100008:=aH.2 ⟨_,f8⟩;have k9:live st1.heap 100009:=aH.2 ⟨_,f9⟩;have x8:σ4 100008= .pointer (some ⟨J,0,none⟩):=(D.fix 100008 J rfl).2 k8;have x9:σ4 100009= .pointer (some ⟨K,0,none⟩):=(D.fix 100009 K rfl).2 k9;obtain⟨b8,y8,u8,p8,G8,q8,r8,_⟩:=D.holds.blk 100008 _ f8;obtain⟨b9,y9,u9,p9,G9,q9,r9,_⟩:=D.holds.blk 100009 _ f9;rw[x8]at p8;cases p8;rw[x9]at p9;cases p9;refine leaves_cons (by simp) (hinv w4) ?_;refine(Qm e J K y8 y9 u8 u9 w4 D.qj (λg cells hg=>?_) q8 q9 r8 r9 hd).mono ?_
   .obtain⟨g1,_⟩:=D.ee g cells hg;exact⟨λe=>g1<|e ▸ G8,λe=>g1<|e ▸ G9⟩
   rintro en u' w5 ⟨rfl,rfl,H,⟨d8,i8,j8,m8,n8⟩,d9,i9,j9,m9,n9⟩;have X:=D.frame;have G8:w0.heap.size<=J:=G8;have G9:w0.heap.size<=K:=G9;have hI:∀s,live (Cg (.nil 1)<|aj e) s->s=100008\/s=100009:=λs Y=>by
    rcases cP (bs:=[(100008,Blk.box [.nil 1])]) (h:=[(100009,Blk.box [aj e])]) |>.1 Y with h|h
    .exact .inl<|cN.1 h
    .exact .inr<|cN.1 h
   have xt :live (Cg (.nil 1)<|aj e) 100008:=by unfold live;rfl
   have xu :live (Cg (.nil 1)<|aj e) 100009:=by unfold live;rfl
   have w8:W.tmps.getD 8 Go.undef= .pointer (some ⟨J,0,none⟩):=by
    have h:=D.aY 8;rw[g8]at h;generalize W.tmps.getD 8 Go.undef=u at h;cases h with|ptr _ _ b _ e=>rw[x8]at e;cases e;rfl
   have w9:W.tmps.getD 9 Go.undef= .pointer (some ⟨K,0,none⟩):=by
    have h:=D.aY 9;rw[g9]at h;generalize W.tmps.getD 9 Go.undef=u at h;cases h with|ptr _ _ b _ e=>rw[x9]at e;cases e;rfl
   have hV:bS jt ⟨(w0.heap.size<= ·),O,w0,85,λ_=>none,[]⟩ ⟨[(8,.ptr 100008 0),(9,.ptr 100009 0)],Cg (.nil 1)<|aj e⟩ σ4 {tmps:=W.tmps,defers:=[]} w5:=by
    refine⟨⟨H.os.trans X.os,H.tape.trans X.tape,H.output.trans X.output,Nat.le_trans X.size H.size,λb T=>?_⟩,λb T=>T,λb T=>Nat.not_le.2<|hO b T,rfl,D.nt,λt=>?_,⟨λs b Y=>?_,λs s' b Y xf k1 k2=>?_⟩,hG,λg cells hg=>⟨Nat.not_le.2 (hG g cells hg).1,ke g cells hg⟩,λq0 B Z=>by cases Z⟩
    .have T:¬w0.heap.size<=b:=T;have xw:w0.heap.size<=w4.heap.size:=X.size;rw[H.block b<|by rintro(h|h|h)<;>omega];exact X.block b T
    .unfold St.get;by_cases k:8=t
     .subst k;show aC _ _ _ _ (.ptr 100008 0)<|W.tmps.getD 8 Go.undef
      rw[w8];exact .ptr _ 0 J xt x8
     .rw[bp _ _ k];by_cases k:9=t
      .subst k;show aC _ _ _ _ (.ptr 100009 0)<|W.tmps.getD 9 Go.undef
       rw[w9];exact .ptr _ 0 K xu x9
      .rw[bp _ _ k];exact .undef _
    .rcases hI s (aH.2 ⟨b,Y⟩)with rfl|rfl
     .cases Y;refine⟨J,d8,i8,x8,G8,j8,m8,λj c hj=>?_⟩;rcases j with _|j
      .cases hj;rw[n8];exact⟨.inl rfl,.nil 1⟩
      .simp at hj
     .cases Y;refine⟨K,d9,i9,x9,G9,j9,m9,λj c hj=>?_⟩;rcases j with _|j
      .cases hj;rw[n9];exact⟨.inl rfl,.d _ _<|.int _ _⟩
      .simp at hj
    .rcases hI s Y with rfl|rfl<;>rcases hI s' xf with rfl|rfl
     .rfl
     .rw[x8]at k1;rw[x9]at k2;cases k1;cases k2;exact absurd rfl hd
     .rw[x9]at k1;rw[x8]at k2;cases k1;cases k2;exact absurd rfl hd
     .rfl
   obtain⟨v,hv,U,τ',hh,hK⟩:=zF hV (v0:= .tuple [.nil 1,aj e]) rfl rfl rfl;refine⟨v,hv,⟨([],e),?_⟩,v,τ',rfl,U,hh,hK⟩;unfold kv;rw[if_neg<|by rw[hB];decide,xd];exact⟨rfl,he⟩
def xv(n:Bs)(t:Int)(d:Datum):Signed:=⟨⟨n,t,9,[d]⟩,[]⟩
def abE:ax:=⟨[46],[xv [46] 2 ⟨[97],0,0⟩,xv [46] 4 ⟨[],4,0⟩,xv [46] 7 ⟨[],1,1⟩,xv [120] 2 ⟨[98],0,0⟩,xv [120] 6 ⟨[],2,1⟩]⟩
def x34:ax:=⟨[120],[xv [120] 2 ⟨[98],0,0⟩,xv [120] 4 ⟨[],7,0⟩,xv [120] 7 ⟨[],2,1⟩]⟩
def exV:aQ:=⟨[⟨[97],1,0⟩,⟨[98],2,0⟩,⟨[99],3,0⟩],[⟨0,abE⟩,⟨1,x34⟩],⟨[46],6,0,[⟨[],1,1⟩]⟩,[1]⟩
def qQ(n:Int):bG:=⟨1,[120],[],[n],⟨0,0⟩⟩
def qP(z:Bs)(n:Int):bG:=⟨2,z,[],[],⟨n,1⟩⟩
def nR(p:al):Int×Bs×Int:=(p.host,p.ai.ag,if p.ai.af=[]then -1 else gp p.ai)
def sE(h:kf):Int×Bs×Int:=(h.owner,h.name,h.addr)
def okP(p:al):Bool:=decide (p.ai.af=[])||aW p.ai
def LD(o:Option bB):List (List<|Int×Bs×Int)×Bool:=match o with
 |some o=>(o.bu.map λs=>s.map nR,o.bu.all λs=>s.all okP)
 |none=>([],false)
def sX(s:List al)(l:List kf):Bool:=decide<|s.map nR=l.map sE
def pI:yD exV:=⟨by decide,by decide,by decide,λp hp=>by
 rcases List.mem_cons.1 hp with rfl|hp
 .kernel_rfl
 .rcases List.mem_cons.1 hp with rfl|hp
  .kernel_rfl
  .cases hp⟩
def uP:cT exV=true:=by kernel_rfl
def ab7:gD exV (qP [120] 3)=true:=by kernel_rfl
def ab8:gD exV (qP [46] 3)=false:=by kernel_rfl
def abc:LD (py exV (qQ 2) 0 100)=([[(2,[120],7)],[(1,[120],8),(2,[120],8),(0,[46],5)],[(1,[120], -1)]],true):=by kernel_rfl
def abb:LD (py exV (qP [120] 3) 0 100)=([[(1,[120],8)],[(0,[46],5)],[(1,[120],9)]],true):=by kernel_rfl
def WD:oG exV (qQ 2) 0 100=false:=by kernel_rfl
def WE:oG exV (qP [120] 3) 0 100=false:=by kernel_rfl
def WG:oG exV (qQ 2) 100 0=true:=by kernel_rfl
def aa6:uh exV (qQ 2)=false:=by kernel_rfl
def aa7:uh exV (qQ 1)=true:=by kernel_rfl
def aa8:wC exV (qP [120] 2)=true:=by kernel_rfl
def aa9:iP exV [2]=true:=by kernel_rfl
def aba:iP exV [1]=true:=by kernel_rfl
noncomputable def IC:Cx:={cx with bld:=[10,20,31,36,42,44,46]}
def Zg:bC IC:=bf
def KN:IC.P.follows .mixedOrders=true:=mixed
def nQ(n:Bs)(t:Int)(d:Datum):NQ.Fn cx 31 [.str n,.int .i64 t,.agg<|aS d] (.agg<|(an<|xv n t d).map .d) []:=by
 show NQ.Fn IC _ _ _ _
 refine bL Zg KN Tryz.func31 ?_;exact ak rfl rfl
def JX:NQ.Fn cx 14 [] (.agg<|(bF exV).map .d) []:=by
 show NQ.Fn IC _ _ _ _
 refine bL Zg KN Tryz.func14 ?_
 (refine⟨_,_,nQ [46] 2 ⟨[97],0,0⟩,M ?_⟩)
 (refine⟨_,_,nQ [46] 4 ⟨[],4,0⟩,M ?_⟩)
 (refine⟨_,_,nQ [46] 7 ⟨[],1,1⟩,M ?_⟩)
 (refine⟨_,_,nQ [120] 2 ⟨[98],0,0⟩,M ?_⟩)
 (refine⟨_,_,nQ [120] 6 ⟨[],2,1⟩,M ?_⟩)
 (refine⟨_,_,nQ [120] 2 ⟨[98],0,0⟩,M ?_⟩)
 (refine⟨_,_,nQ [120] 4 ⟨[],7,0⟩,M ?_⟩)
 (refine⟨_,_,nQ [120] 7 ⟨[],2,1⟩,M ?_⟩)
 exact ak rfl rfl
def UC{s:List al}{l:List kf}(h:s.length≠l.length):sX s l=false:=by
 unfold sX;rw[decide_eq_false_iff_not];intro e;have:=congrArg List.length e;simp at this;exact h this
def tC(s:List al)(l:List kf)(hs:s.length<=100000)(hv:∀p∈s,p.ai.af≠[]->aW p.ai=true):NQ.Fn cx 16 [.agg<|dK s,.slice 3<|l.map gG] (.d<|.bool<|sX s l) []:=by
 refine bL bf mixed Tryz.func16 ?_;refine aD ?_ ?_<;>intro h0
 .exact ak rfl (by rw[UC<|by intro e;simp[e]at h0];rfl)
 have N:s.length=l.length:=by(have:(s.length:Int)=l.length:=by simpa using h0);omega
 refine⟨Nat,λk=>⟨[(1,.d<|.slice 3<|l.map gG),(2,.ptr 2 0),(15,.d<|.slice 3<|s.map aP),(16,aj ((s.map aP).length:Int)),(17,aj k)],[(2,.box [.d<|.slice 3<|s.map aP])]⟩,λk=>k<=s.length/\(s.take k).map nR=(l.take k).map sE,λk=>s.length-k,
  ⟨0,⟨Nat.zero_le _,rfl⟩,aI.keep⟩,?_⟩
 rintro k ⟨hk,H⟩;conv=>whnf
 refine aD ?_ ?_<;>intro h1
 .have J:k<s.length:=by simp at h1;omega
  obtain⟨p,hp⟩:∃p,s[k]? =some p:=⟨_,ao J⟩
  obtain⟨j,V⟩:∃j,l[k]? =some j:=⟨_,ao<|by omega⟩
  have T:nR p≠sE j->sX s l=false:=λD=>by
   unfold sX;rw[decide_eq_false_iff_not];intro e;have:=congrArg (λq=>q[k]?) e;simp only[bc,hp,V,Option.map_some,Option.some.injEq]at this;exact D this
  have I:nR p=sE j->(s.take<|k+1).map nR=(l.take<|k+1).map sE:=λe=>by
   rw[cj hp,cj V,List.map_append,List.map_append,H];simp[e]
  refine⟨aB k,aP p,aL hp,M ?_⟩
  have again:∀G:Int,G=(if p.ai.af=[]then -1 else gp p.ai)->(((p.host != j.owner)|| !(p.ai.ag==j.name))||(G != j.addr))= !(decide<|nR p=sE j):=λG U=>by
   unfold nR sE;rw[<- U];by_cases X:p.host=j.owner<;>by_cases Y:p.ai.ag=j.name<;>by_cases Z:G=j.addr<;>simp[X,Y,Z]
  refine aD ?_ ?_<;>intro W
  .have D:p.ai.af≠[]:=by intro e;simp[e]at W
   (refine⟨_,_,Of p.ai<|hv p (aw hp) D,M ?_⟩)
   have again:=again (gp p.ai) (by rw[if_neg D])
   (refine bJ<|M ?_)
   repeat' (first
    |(refine⟨aB k,gG j,aL V,M ?_⟩)
    |(refine aD ?_ ?_<;>intro h)|fail)
   all_goals first
    | exact ak rfl (by
        have K:(!(decide<|nR p=sE j))=true:=by rw[<- again];simp only[*, if_true,if_false,aX]
        rw[T<|by simpa using K];rfl)
    | exact ⟨k + 1, ⟨J, I (by
        have K:(!(decide<|nR p=sE j))=false:=by rw[<- again];simp only[*, if_true,if_false,aX]
        simpa using K)⟩,by(show s.length-(k+1)<s.length-k;omega),aI.keep⟩
    |fail
  .have D:p.ai.af=[]:=by
    cases e:p.ai.af with
    |nil=>rfl
    |cons a t=>rw[e]at W;simp at W
   have again:=again (-1) (by rw[if_pos D])
   (refine bJ<|M ?_)
   repeat' (first
    |(refine⟨aB k,gG j,aL V,M ?_⟩)
    |(refine aD ?_ ?_<;>intro h)|fail)
   all_goals first
    | exact ak rfl (by
        have K:(!(decide<|nR p=sE j))=true:=by rw[<- again];simp only[*, if_true,if_false,aX]
        rw[T<|by simpa using K];rfl)
    | exact ⟨k + 1, ⟨J, I (by
        have K:(!(decide<|nR p=sE j))=false:=by rw[<- again];simp only[*, if_true,if_false,aX]
        simpa using K)⟩,by(show s.length-(k+1)<s.length-k;omega),aI.keep⟩
    |fail
 .obtain rfl:k=s.length:=by simp at h1;omega
  refine ak rfl ?_;have:sX s l=true:=by
   unfold sX;rw[decide_eq_true_iff, <- List.take_length (l:=s),H,N,List.take_length]
  rw[this];rfl
end Go.Proofs.YtjojkakjmoefaaaGreatDoor

namespace NQ
open Go
def DA{cx cx' :Cx}(h1:cx'.P=cx.P)(j:cx'.gl=cx.gl){f:FuncId}{args:List AV}{ι:Type}{res:ι->AV}{bs:ι->List (Nat×Blk)}(h:FnC cx f args res bs):FnC cx' f args res bs:=by
 unfold FnC im jO at *
 rw[h1,j];exact h
def FnC.AO{cx:Cx}{f:FuncId}{args D:List AV}{ι:Type}{res:ι->AV}{bs:ι->List (Nat×Blk)}(h:FnC cx f D res bs)(e:D=args.map dn2):FnC cx f args res bs:=by
 subst e;refine⟨h.1,λO w vs U T I K H=>h.2 O w vs U T I (by rw[K,au]) λj c G=>?_⟩;rw[bc]at G;cases J:args[j]? with
 |none=>rw[J]at G;cases G
 |some N=>rw[J]at G;cases G;exact Az<|H j N J
end NQ

namespace Go.Proofs.YtjojkakjmoefaaaGreatDoor
open NQ Go.RowKit
variable {z:ax}
def Lp(j:aW z=true):SmJ z:=by
 refine⟨by have:=(dP j).1;omega,λs k=>?_⟩;cases h:(wfR z s k).2 with
 |true=>have:=vH j h;omega
 |false =>
  unfold wfR at h ⊢;split at h
  .cases h
  .exact Nat.zero_le _
noncomputable def Fq:Cx:={cx with chg:=ja [(15,7)],bld:=[18,54,63,71,80,88,96,107]}
def acw:bC Fq:=bf
def aaj:Fq.P.follows .mixedOrders=true:=mixed
def Hu{r:Option bB}{a b c:List<|Int×Bs×Int}(h:LD r=([a,b,c],true)):∃o s0 j D,r=some o/\o.bu=[s0,j,D]/\s0.map nR=a/\j.map nR=b/\D.map nR=c/\(∀p∈s0,p.ai.af≠[]->aW p.ai=true)/\(∀p∈j,p.ai.af≠[]->aW p.ai=true)/\ ∀p∈D,p.ai.af≠[]->aW p.ai=true:=by
 cases r with
 |none=>unfold LD at h;simp at h
 |some o =>
  unfold LD at h;simp only[Prod.mk.injEq]at h;obtain⟨h1,G⟩:=h
  match H:o.bu,h1 with
  |[s0,j,D],h1 =>
   rw[H]at G;simp only[List.map_cons,List.map_nil,List.cons.injEq,and_true]at h1;simp only[List.all_cons,List.all_nil,gF,aK]at G;have key:∀s:List al,s.all okP=true-> ∀p∈s,p.ai.af≠[]->aW p.ai=true:=λs J p hp I=>by
    have:=aG.1 J p hp;unfold okP at this;simpa [I] using this
   exact⟨o,s0,j,D,rfl,H,h1.1,h1.2.1,h1.2.2,key s0 G.1,key j G.2.1,key D G.2.2⟩
def qU{s:List al}{l:List kf}(h:s.map nR=l.map sE):sX s l=true:=by
 unfold sX;rw[h];exact decide_eq_true rfl
def wD{s:List al}{a:List<|Int×Bs×Int}(h:s.map nR=a):s.length=a.length:=by rw[<- h,au]
def KS(w:aQ)(n:Int)(h:cr w n=true):∀m∈[n],cr w m=true:=λm j=>by rw[List.mem_singleton.1 j];exact h
def TO:NQ.Fn cx 4 [] (.d<|.bool true) []:=by
 show NQ.Fn Fq _ _ _ _
 have kC:=DA (cx' :=Fq) rfl rfl (tq exV (qQ 2) 0 100 pI<|by decide);have kD:=DA (cx' :=Fq) rfl rfl (tq exV (qP [120] 3) 0 100 pI<|by decide);have kE:=DA (cx' :=Fq) rfl rfl (tq exV (qQ 2) 100 0 pI<|by decide);have hz:∀p∈exV.ah,aW p.ai=true:=λp hp=>(di uP p hp).1
 have c1:SmJ (cq exV.ah [120]).1:=Lp (by kernel_rfl);have c2:SmJ (dQ exV.ah [120]).1:=Lp (by kernel_rfl);have H:=kF (args:=[.agg<|bF exV,.agg<|bw<|qQ 2])<|GC exV (qQ 2) pI uP rfl aa9 (KS _ _<|by decide) (by decide) c1 c2;have I:=kF (args:=[.agg<|bF exV,.agg<|bw<|qQ 1])<|GC exV (qQ 1) pI uP rfl aba (KS _ _<|by decide) (by decide) c1 c2;have J:=kF (args:=[.agg<|bF exV,.agg<|bw<|qP [120] 2])<|Ts exV (qP [120] 2) pI uP rfl (λp hp=>Lp<|hz p hp) c2;have D:=kF (args:=[.agg<|bF exV,.agg<|bw<|qP [120] 3])<|sF exV (qP [120] 3) pI
 have G:=kF (args:=[.agg<|bF exV,.agg<|bw<|qP [46] 3])<|sF exV (qP [46] 3) pI;rw[aa6]at H;rw[aa7]at I;rw[aa8]at J;rw[ab7]at D;rw[ab8]at G;obtain⟨om,m0,m1,m2,rm,em,U,V,W,ks,kt,ku⟩:=Hu abc;obtain⟨ok,k0,k1,k2,rk,ek,K,N,T,kp,kq,kr⟩:=Hu abb;have gm:∀q,kv exV (qQ 2) 0 100 q->q=([m0,m1,m2],0):=λq j=>by
  unfold kv at j;rw[if_neg<|by rw[WD];decide,rm]at j;rw[j,em]
 have gk:∀q,kv exV (qP [120] 3) 0 100 q->q=([k0,k1,k2],0):=λq j=>by
  unfold kv at j;rw[if_neg<|by rw[WE];decide,rk]at j;rw[j,ek]
 have gb:∀q,kv exV (qQ 2) 100 0 q->q=([],1):=λq j=>by
  unfold kv at j
  rwa [if_pos WG]at j
 have ka:=tC m0 [⟨[120],7,2⟩] (by rw[wD U];decide) ks;have kb:=tC m1 [⟨[120],8,1⟩,⟨[120],8,2⟩,⟨[46],5,0⟩] (by rw[wD V];decide) kt;have kc:=tC m2 [⟨[120], -1,1⟩] (by rw[wD W];decide) ku;have X:=tC k0 [⟨[120],8,1⟩] (by rw[wD K];decide) kp;have Y:=tC k1 [⟨[46],5,0⟩] (by rw[wD N];decide) kq;have Z:=tC k2 [⟨[120],9,1⟩] (by rw[wD T];decide) kr;rw[qU U]at ka;rw[qU V]at kb;rw[qU W]at kc;rw[qU K]at X;rw[qU N]at Y;rw[qU T]at Z;clear ks kt ku kp kq kr U V W K N T rm rk em ek hz c1 c2
 refine gr (fun|3=>[88888]|5=>[88888]|13=>[88888]|_=>[]) acw aaj Tryz.func4 ?_;conv=>whnf
 (refine⟨_,_,JX,M ?_⟩)
 refine⟨_,_,_,⟨kC,λi=>⟨rfl,rfl⟩⟩,?_⟩;rintro⟨q,j⟩;obtain rfl:=gm q j;dsimp only;conv=>whnf
 refine⟨_,_,_,⟨FnC.AO kD rfl,λi=>⟨rfl,rfl⟩⟩,?_⟩;rintro⟨q,j⟩;obtain rfl:=gk q j;dsimp only;conv=>whnf
 repeat' (first
  |(refine⟨Int.le_refl 0,dK m0,rfl,M ?_⟩)
  |(refine⟨by decide,dK m1,rfl,M ?_⟩)
  |(refine⟨by decide,dK m2,rfl,M ?_⟩)
  |(refine⟨Int.le_refl 0,dK k0,rfl,M ?_⟩)
  |(refine⟨by decide,dK k1,rfl,M ?_⟩)
  |(refine⟨by decide,dK k2,rfl,M ?_⟩)
  |(refine⟨_,_,ka,M ?_⟩)
  |(refine⟨_,ka,by kernel_rfl,M ?_⟩)
  |(refine⟨_,_,kb,M ?_⟩)
  |(refine⟨_,kb,by kernel_rfl,M ?_⟩)
  |(refine⟨_,_,kc,M ?_⟩)
  |(refine⟨_,kc,by kernel_rfl,M ?_⟩)
  |(refine⟨_,_,X,M ?_⟩)
  |(refine⟨_,X,by kernel_rfl,M ?_⟩)
  |(refine⟨_,_,Y,M ?_⟩)
  |(refine⟨_,Y,by kernel_rfl,M ?_⟩)
  |(refine⟨_,_,Z,M ?_⟩)
  |(refine⟨_,Z,by kernel_rfl,M ?_⟩)
  |(refine⟨_,_,H,M ?_⟩)
  |(refine⟨_,H,by kernel_rfl,M ?_⟩)
  |(refine⟨_,_,I,M ?_⟩)
  |(refine⟨_,I,by kernel_rfl,M ?_⟩)
  |(refine⟨_,_,J,M ?_⟩)
  |(refine⟨_,J,by kernel_rfl,M ?_⟩)
  |(refine⟨_,_,D,M ?_⟩)
  |(refine⟨_,D,by kernel_rfl,M ?_⟩)
  |(refine⟨_,_,G,M ?_⟩)
  |(refine⟨_,G,by kernel_rfl,M ?_⟩)
  |fail)
 refine⟨_,_,_,⟨FnC.AO kE rfl,λi=>⟨rfl,rfl⟩⟩,?_⟩;rintro⟨q,j⟩;obtain rfl:=gb q j;dsimp only;conv=>whnf
 repeat' (first
  |(refine⟨_,_,D,M ?_⟩)
  |(refine⟨_,D,by kernel_rfl,M ?_⟩)
  |(refine⟨_,_,G,M ?_⟩)
  |(refine⟨_,G,by kernel_rfl,M ?_⟩)
  |fail)
 exact ak rfl rfl
def jN(w:aQ)(l:List<|List al)(k:Nat):aQ:=(l.take k).foldl lD w
def mP(w:aQ)(l:List<|List al)(k:Nat):List aQ:=(List.range<|k+1).map<|jN w l
variable {w:aQ}{l:List (List al)}
def Al{k:Nat}{s:List al}(h:l[k]? =some s):jN w l (k+1)=lD (jN w l k) s:=by
 unfold jN;rw[List.take_add_one,h,List.foldl_append];rfl
def LX(w:aQ)(l:List<|List al):jN w l 0=w:=rfl
def LY(w:aQ)(l:List<|List al)(k:Nat):mP w l (k+1)=mP w l k++[jN w l<|k+1]:=by
 unfold mP;rw[List.range_succ,List.map_append];rfl
def BV{w:aQ}{l:List<|List al}(j:∀s∈l,s.length<=2000):∀k,k<=l.length->(jN w l k).ah.length<=w.ah.length+k*2000
 |0,_=>by rw[LX];omega
 |k+1,h=>by
  have H:=BV (w:=w) j k (by omega);obtain⟨s,D⟩:∃s,l[k]? =some s:=⟨_,ao<|by omega⟩
  rw[Al D];have h1:=iE s (jN w l k).ah;have G:=j s<|aw D;show(s.foldl bT (jN w l k).ah).length<=_
  omega
def qA(w:aQ)(x:bG):Bool:= !(((!pj w||decide ((x.ar.length:Int)>20))||decide ((x.ai.length:Int)>100))||decide ((x.name.length:Int)>100))
def lO(w:aQ)(x:bG)(since aT:Int):Option<|List<|List al:=if qA w x=true then(if oG w x since aT=true then none else match py w x since aT with
 |some o=>some o.bu
 |none=>none)else none
variable {x:bG}{since aT:Int}
def Sg(h:lO w x since aT=some l):∃o,o.bu=l/\py w x since aT=some o/\pj w=true/\gD w x=true/\cT w=true/\x.ai.length<=100/\oG w x since aT=false:=by
 unfold lO at h;split at h
 case isFalse=>cases h
 rename_i h1;split at h
 .cases h
 rename_i j;split at h
 case h_2=>cases h
 rename_i o H;cases h;have j:oG w x since aT=false:=by simpa using j
 have G:gD w x=true:=by
  have:=j;unfold oG at this;simp only[Bool.or_eq_false_iff,Bool.not_eq_false']at this;exact this.1.1.1
 have D:cT w=true:=by
  have:=G;unfold gD at this;simp only[aK,Bool.not_eq_true',Bool.or_eq_false_iff,Bool.not_eq_false']at this;exact this.1.1
 unfold qA at h1;simp only[Bool.not_eq_true',Bool.or_eq_false_iff,Bool.not_eq_false',decide_eq_false_iff_not]at h1;exact⟨o,rfl,H,h1.1.1.1,G,D,by omega,j⟩
noncomputable def yW:Cx:={cx with chg:=ja [(15,7)],bld:=[]}
def abR:bC yW:=bf
def Uq:yW.P.follows .mixedOrders=true:=mixed
def aaI(w:aQ):Option (List<|List al)->AV
 |some l=> .tuple [.d<|.slice 1<|l.map dK,.d<|.slice 7<|(mP w l l.length).map bF,.d<|.bool true]
 |none=> .tuple [.d<|.slice 1 [],.d<|.slice 7 [],.d<|.bool false]
def Om(w:aQ)(x:bG)(since aT:Int):NQ.Fn cx 5 [.agg<|bF w,.agg<|bw x,.int .i64 since,.int .i64 aT] (aaI w<|lO w x since aT) []:=by
 show NQ.Fn yW _ _ _ _
 refine gr (fun|3=>[88888]|13=>[48]|_=>[]) abR Uq Tryz.func5 ?_;have hS:pj w=true->FnC yW 15 [.agg<|(bF w).map .d,.agg<|(bw x).map .d,aj since,aj aT] (ι:={q:List (List al)×Int // kv w x since aT q}) (λq=> .tuple [.d<|.slice 1<|q.1.1.map dK,aj q.1.2]) (λ_=>[]):=λh=>DA (cx' :=yW) rfl rfl<|tq w x since aT (xx h).1 (xx h).2.2.1
 conv=>whnf
 (refine⟨_,_,ZG w,M ?_⟩)
 have D:qA w x=false->lO w x since aT=none:=λh=>by unfold lO;rw[if_neg<|by rw[h];decide]
 repeat' (first|(refine aD ?_ ?_<;>intro h)|fail)
 all_goals first
  |exact ak rfl (by rw[D<|by unfold qA;(try simp only[au]at *);simp only[*, if_true,if_false,aX]];rfl)
  |skip
 have Y:qA w x=true:=by unfold qA;(try simp only[au]at *);simp only[*, if_true,if_false,aX]
 have N:pj w=true:=by
  have:=Y;unfold qA at this;simp only[Bool.not_eq_true',Bool.or_eq_false_iff,Bool.not_eq_false']at this;exact this.1.1.1
 have U:=(xx N).2.2.1;refine⟨_,_,_,⟨hS N,λi=>⟨rfl,rfl⟩⟩,?_⟩;rintro⟨⟨l,e⟩,G⟩;dsimp only;conv=>whnf
 unfold kv at G;have hL:lO w x since aT=if oG w x since aT=true then none else match py w x since aT with
  |some o=>some o.bu
  |none=>none:=by unfold lO;rw[if_pos Y]
 rw[hL];clear hL D hS;by_cases hb:oG w x since aT=true
 .rw[if_pos hb]at G ⊢;cases G;conv=>whnf
  exact ak rfl rfl
 rw[if_neg hb]at G ⊢;cases hr:py w x since aT with
 |none =>
  rw[hr]at G;obtain⟨e1,e2⟩:=G;dsimp only at e1 e2;rw[show(e != 0)=true by simpa using e2];conv=>whnf
  exact ak rfl rfl
 |some o =>
  rw[hr]at G;cases G;dsimp only;conv=>whnf
  have K :oG w x since aT=false:=by simpa using hb
  have hx:gD w x=true:=by
   have:=K;unfold oG at this;simp only[Bool.or_eq_false_iff,Bool.not_eq_false']at this;exact this.1.1.1
  have Z:cT w=true:=by
   have:=hx;unfold gD at this;simp only[aK,Bool.not_eq_true',Bool.or_eq_false_iff,Bool.not_eq_false']at this;exact this.1.1
  have H:=(PI hr Z hx U).1;have V:=H.num;have j:∀s∈o.bu,s.length<=2000:=λs X=>(H.st s X).2.1
  clear H hr hb K hx Z;generalize o.bu=l at V j ⊢;refine⟨Nat×aQ×List aQ,λq=>⟨[(4,.ptr 4 0),(11,.d<|.slice 1<|l.map dK),(13,.own 48),(49,.d<|.slice 1<|l.map dK),(50,aj ((l.map dK).length:Int)),(51,aj q.1)],[(48,.row 29 7<|q.2.2.map bF),(4,.box<|(bF q.2.1).map .d)]⟩,λq=>q.1<=l.length/\q.2.1=jN w l q.1/\q.2.2=mP w l q.1,λq=>l.length-q.1,
   ⟨(0,w,[w]),⟨Nat.zero_le _,rfl,rfl⟩,aI.keep⟩,?_⟩
  rintro⟨k,J,W⟩ ⟨hk,I,hW⟩;dsimp only at hk I hW;conv=>whnf
  refine aD ?_ ?_<;>intro h1
  .have T:k<l.length:=by simp at h1;omega
   obtain⟨s,X⟩:∃s,l[k]? =some s:=⟨_,ao T⟩
   have xh:=j s<|aw X;have xn:=BV (w:=w) j k hk;rw[<- I]at xn;have hmul:k*2000<=3*2000:=Nat.mul_le_mul_right _ (by omega);have xA:W.length=k+1:=by rw[hW];unfold mP;simp
   refine⟨aB k,dK s,aL X,M ?_⟩
   (refine⟨_,_,SJ J s<|by omega,M ?_⟩)
   refine⟨by simp;omega,by simp;omega,M ?_⟩
   have e1:jN w l (k+1)=lD J s:=by rw[Al X,I]
   have e2:W++[lD J s]=mP w l (k+1):=by rw[LY,hW,e1]
   refine⟨(k+1,lD J s,W++[lD J s]),⟨T,e1.symm,e2⟩,by(show l.length-(k+1)<l.length-k;omega),aI.keep ⟨ae,ae,ae,ae,ae,⟨bj (k:=k)<|by omega,rfl⟩,trivial⟩ ⟨⟨?_,rfl⟩,(by repeat' (first|exact trivial|refine⟨ae,?_⟩))⟩⟩;show _=some (Blk.row 29 7<|(W++[lD J s]).map bF)
   rw[List.map_append];rfl
  .obtain rfl:k=l.length:=by simp at h1;omega
   subst hW;exact ak rfl rfl
def IY(j:List al):Prop:= ∀p∈j,aW p.ai=true
def PY(j:List al)(a:Bs)(n:Int):Prop:=(∃p∈j,p.ai.ag=a/\fj p.ai=n)/\ ∀p∈j,p.ai.ag=a->fj p.ai<=n
variable {zs:List al}
def eK{p q:al}:q∈bT zs p ↔ (q∈zs/\(q.host≠p.host\/q.ai.ag≠p.ai.ag))\/(p.ai.af≠[]/\q=p):=by
 unfold bT;rw[List.mem_append,List.mem_filter];refine or_congr (and_congr_right λ_=>by simp) ?_;split
 .simp[*]
 .simp[*]
variable {a:Bs}
def PY.fold{n:Int}:∀(l:List al) {j:List al},(∀p∈l,p.ai.ag=a->p.ai.af≠[]/\fj p.ai=n)->PY j a n->PY (l.foldl bT j) a n
 |[],j,_,h=>h
 |p::t,j,H,h=>by
  refine PY.fold t (λq D=>H q<|aZ _ D) ?_;have hp:=H p (List.mem_cons_self ..);obtain⟨⟨q,D,G,J⟩,I⟩:=h;refine⟨?_,λr K e=>?_⟩
  .by_cases e:p.ai.ag=a
   .exact⟨p,eK.2<|.inr ⟨(hp e).1,rfl⟩,e,(hp e).2⟩
   .exact⟨q,eK.2<|.inl ⟨D,.inr<|by rw[G];exact λh=>e h.symm⟩,G,J⟩
  .rcases eK.1 K with ⟨h1,_⟩|⟨_,rfl⟩
   .exact I r h1 e
   .rw[(hp e).2];exact Int.le_refl _
def nd(j:List al)(a:Bs)(z:ax):Prop:=(∃p∈j,p.ai.ag=a)/\ ∀p∈j,p.ai.ag=a->p.ai=z
def nd.fold:∀(l:List al) {j:List al},(∀p∈l,p.ai.ag≠a)->nd j a z->nd (l.foldl bT j) a z
 |[],j,_,h=>h
 |p::t,j,H,h=>by
  refine nd.fold t (λq D=>H q<|aZ _ D) ?_;have hp:=H p (List.mem_cons_self ..);obtain⟨⟨q,D,G⟩,I⟩:=h;refine⟨⟨q,eK.2<|.inl ⟨D,.inr<|by rw[G];exact λh=>hp h.symm⟩,G⟩,λr J e=>?_⟩;rcases eK.1 J with ⟨h1,_⟩|⟨_,rfl⟩
  .exact I r h1 e
  .exact absurd e hp
def EL{z:ax}:∀(l:List al) {D:List al},(∀p∈l,p.ai=z)-> ∀q∈l.foldl bT D,q.ai=z\/(q∈D/\ ∀p∈l,p.host≠q.host\/q.ai.ag≠z.ag)
 |[],D,_,q,j=> .inr ⟨j,λp hp=>by cases hp⟩
 |p::t,D,I,q,j=>by
  have hp:=I p (List.mem_cons_self ..);rcases EL t (λq j=>I q<|aZ _ j) q j with h|⟨h,h2⟩
  .exact .inl h
  .rcases eK.1 h with ⟨h1,H⟩|⟨_,rfl⟩
   .refine .inr ⟨h1,λr G=>?_⟩;rcases List.mem_cons.1 G with rfl|G
    .rw[hp]at H;exact H.imp Ne.symm id
    .exact h2 r G
   .exact .inl hp
def vm{a:Bs}:∀(l:List al) {j:List al},(∀p∈l,p.ai.af≠[])->(∃p∈j,p.ai.ag=a)-> ∃p∈l.foldl bT j,p.ai.ag=a
 |[],j,_,h=>h
 |p::t,j,H,⟨q,D,G⟩=>by
  refine vm t (λq D=>H q<|aZ _ D) ?_;by_cases e:p.ai.ag=a
  .exact⟨p,eK.2<|.inr ⟨H p (List.mem_cons_self ..),rfl⟩,e⟩
  .exact⟨q,eK.2<|.inl ⟨D,.inr<|by rw[G];exact λh=>e h.symm⟩,G⟩
def pA{g:List Int}:∀p∈cg z zs++cU z g,p.ai=z:=λp hp=>by
 rcases List.mem_append.1 hp with hp|hp
 .unfold cg at hp;obtain⟨q,_,rfl⟩:=List.mem_map.1 hp;rfl
 .unfold cU at hp;obtain⟨q,_,rfl⟩:=List.mem_map.1 hp;rfl
def yv(w:aQ)(l:List<|List al):List al:=l.foldl (λj s=>s.foldl bT j) w.ah
def IZ(ag:Bs):∀(l:List al) (x:Bs×Bool),(x.2=true->x.1≠ag)->((l.foldl (tL ag) x).2=true->(l.foldl (tL ag) x).1≠ag)
 |[],x,h=>h
 |p::t,x,h=>by
  refine IZ ag t _ ?_;unfold tL;split
  .rename_i g;intro _ e;simp only[aK,bne_iff_ne,ne_eq]at g;exact g.1.1 e
  .exact h
def rP(D:IY zs)(h:(cq zs a).2=true):∃k q,js zs a=some (k,q)/\(cq zs a).1=q.ai:=by
 cases j:js zs a with
 |none =>
  unfold cq at h;rw[JI D,j]at h;cases h
 |some x =>
  obtain⟨k,q⟩:=x;exact⟨k,q,rfl,by rw[Zy D j]⟩
def Bg(J:IY zs){ag:Bs}(h:(dQ zs ag).2=true):∃a k q,a≠ag/\js zs a=some (k,q)/\(dQ zs ag).1=q.ai:=by
 unfold dQ at h ⊢;split at h
 case isFalse=>cases h
 rename_i h1;rw[if_pos h1];split at h
 case isFalse=>cases h
 rename_i j;rw[if_pos j];refine⟨(lC ag zs).1,?_⟩;have D:(lC ag zs).1≠ag:=IZ ag zs _ (by simp) h1;have I:(cq zs (lC ag zs).1).2=true:=by
  rcases lj zs (lC ag zs).1 with ⟨p,hp,e,K⟩|⟨e,_⟩
  .rw[e]
  .rw[e]at j;cases j
 obtain⟨k,q,G,H⟩:=rP J I;exact⟨k,q,D,G,H⟩
def oB(h:aW z=true):z.af≠[]:=λe=>by
 have:=(rf.1 h).start;rw[e]at this;cases this
variable {y:ax}{k:Int}
def Et(h:cY since aT y=some z)(s:Bs)(J:k≠8):wfR z s k=wfR (ej y) s k:=by
 obtain⟨h1,T,U,V,W,I,j,K,e⟩:=mN h;have N:wfR z s k=wfR (eW<|ej y).1 s k:=by
  conv=>lhs;rw[e]
  unfold iW at j ⊢;split at j
  .cases j
  rename_i D;rw[if_neg D];split at j
  .cases j
  rename_i G;rw[if_neg G];split at j
  .cases j
  rename_i H;rw[if_neg H];exact Ln _ _ _ _ _ _
 rw[N,Gv I _ J]
def Oe(h:cY since aT y=some z)(s:Bs)(D:k≠8)(j:k≠4):wfR z s k=wfR y s k:=by
 rw[Et h s D];exact SX _ _ _ _ _ j
variable {aJ:Int}{d:List Datum}
def RT{v:ax}{s:Bs}(h:cY since aT (bN v s k aJ d)=some z)(G:k≠8)(D:k≠4):wfR z s k=((fc v s k aJ d).set,true):=by
 rw[Et h s G];have j:=(mN h).2.2.2.2.1;exact Ba (pg (bt j).rising.pw) (VU _ _ _ (ON ..) D) (Ff ..)
def pk{q:al}:∀(l:List al) {j:List al},q∈l.foldl bT j->q∈j\/q∈l
 |[],j,h=> .inl h
 |p::t,j,h=>by
  rcases pk t h with h|h
  .rcases eK.1 h with ⟨h,_⟩|⟨_,rfl⟩
   .exact .inl h
   .exact .inr (List.mem_cons_self ..)
  .exact .inr<|aZ _ h
def CS(w j:List al)(a:Bs):Prop:= ∀q∈j,q.ai.ag=a-> ∃r∈w,r.ai.ag=a/\r.host=q.host
def su{w:List al}(h:CS w zs a):CS w ((cg z w).foldl bT zs) a:=λq j e=>by
 rcases pk _ j with j|j
 .exact h q j e
 .unfold cg at j;obtain⟨r,D,rfl⟩:=List.mem_map.1 j;have D:=List.mem_filter.1 D;exact⟨r,D.1,(eq_of_beq D.2).trans e,rfl⟩
def nI(s:Signed):Bool:=(s.set.type==5)||(s.set.type==3)
def cz(l:List Signed):List cH:=(l.filter nI).map (·.set)
structure rG(a b:Ans):Prop where
 kind:b.kind=a.kind
 cut:b.cut=a.cut
 plain:cz b.af=cz a.af
 head:a.kind=3-> ∃s R s' R',a.af=s::R/\b.af=s' ::R' /\s'.set=s.set
def rn(z:ax):List<|Bs×Int:=(cJ z).af.map Signed.place
def pX(z:ax):Prop:= ∀s∈z.af,s.set.type=8-> ∃t∈z.af,t.set.name=s.set.name/\t.set.type≠8
structure Sk(z y:ax):Prop where
 ag:y.ag=z.ag
 bare:rn y=rn z
 keep:∀n k,k=3\/k=5->wfR y n k=wfR z n k
 l1:pX z
 l2:pX y
def Ty(h:pX z)(n:Bs):nY z n=true ↔ ∃p∈rn z,bd p.1 n=true:=by
 unfold nY;rw[List.any_eq_true];constructor
 .rintro⟨s,H,G⟩;obtain⟨t,D,I,j⟩:∃t∈z.af,t.set.name=s.set.name/\t.set.type≠8:=by
   by_cases j:s.set.type=8
   .exact h s H j
   .exact⟨s,H,rfl,j⟩
  exact⟨t.place,List.mem_map.2 ⟨t,gi.2 ⟨D,j⟩,rfl⟩,by show bd t.set.name n=true;rw[I];exact G⟩
 .rintro⟨p,hp,G⟩;obtain⟨t,D,rfl⟩:=List.mem_map.1 hp;exact⟨t,(gi.1 D).1,G⟩
def Sk.ex(h:Sk z y)(n:Bs):nY y n=nY z n:=by
 rw[Bool.eq_iff_iff,Ty h.l2,Ty h.l1,h.bare]
def tT(ag:Bs):∀l:List Signed,dv ag l=(((l.filter gZ).map Signed.place).filter λp=>(p.2==2)&& !(p.1==ag)).map (·.1)
 |[]=>rfl
 |s::t=>by
  rw[dv,tT ag t,List.filter_cons];by_cases j:eS ag s=true
  .have D:gZ s=true:=by
    unfold eS at j;simp only[aK,beq_iff_eq]at j;unfold gZ;rw[j.1];rfl
   rw[if_pos j,if_pos D,List.map_cons,List.filter_cons,if_pos (show((s.place.2==2)&& !(s.place.1==ag))=true from j)];rfl
  .rw[if_neg j];split
   .rw[List.map_cons,List.filter_cons,if_neg (show ¬((s.place.2==2)&& !(s.place.1==ag))=true from j)]
   .rfl
def Sk.cut(h:Sk z y)(n:Bs):dh y n=dh z n:=by
 have e:(y.af.filter gZ).map Signed.place=(z.af.filter gZ).map Signed.place:=h.bare;unfold dh;rw[tT,tT,e,h.ag]
def Ph(z:ax)(n:Bs)(k:Int):dG z.af ⟨n,k⟩=(wfR z n k).2:=by
 rw[Bool.eq_iff_iff,lK];unfold wfR mX;cases h:z.af.find? (isF n k)with
 |none=>exact⟨λ⟨s,j,e⟩=>absurd (kI.2 e)<|List.find?_eq_none.1 h s j,λe=>by cases e⟩
 |some x=>exact⟨λ_=>rfl,λ_=>⟨x,List.mem_of_find?_eq_some h,kI.1<|List.find?_some h⟩⟩
def Sk.has(h:Sk z y)(n:Bs)(j:k=3\/k=5):dG y.af ⟨n,k⟩=dG z.af ⟨n,k⟩:=by
 rw[Ph,Ph,h.keep n k j]
def Sk.same(h:Sk z y)(T:Ordered z)(N:Ordered y){n:Bs}(H:k=3\/k=5)(G:dG z.af ⟨n,k⟩=true):∃s∈z.af,∃t∈y.af,s.place=(n,k)/\t.place=(n,k)/\t.set=s.set:=by
 obtain⟨s,I,es⟩:=lK.1 G;obtain⟨t,J,D⟩:=lK.1<|(h.has n H).trans G;have K:=Ba (pg T.rising.pw) I<|kI.2 es;have j:=Ba (pg N.rising.pw) J<|kI.2 D;rw[h.keep n k H,K]at j;exact⟨s,I,t,J,es,D,(congrArg Prod.fst j).symm⟩
def Lo{z y:ax}(h:Sk z y)(G:Ordered z)(D:Ordered y):∀(f:Nat) (n:Bs),aR n=true->pG y.ag y.af f n=pG z.ag z.af f n
 |0,n,_=>rfl
 |f+1,n,j=>by
  unfold pG;rw[Lo h G D f _<|nH j,nX D j,nX G j,h.ex,h.ag]
def BX(l:List Signed)(p:Int):Prop:=0<=p-> ∀s,l[p.toNat]? =some s->nI s=false
variable {s:Signed}
def yZ(h:s.set.type≠5/\s.set.type≠3):nI s=false:=by
 unfold nI;simp[h.1,h.2]
def Fm(l:List Signed):∀c,0<=mV l c-> ∀s,l[(mV l c).toNat]? =some s->s.set.type=8
 |0,h,s,_=>absurd (show(0:Int)<= -1 from h) (by decide)
 |c+1,h,s,j=>by
  unfold mV at h j;split at h
  .rename_i x D;split at h
   .rename_i G;rw[D]at j;dsimp only at j;rw[if_pos G,show((c:Int)).toNat=c from Int.toNat_natCast c,D]at j;cases j;exact G
   .rename_i G;rw[D]at j;dsimp only at j;rw[if_neg G]at j;exact Fm l c h s j
  .rename_i D;rw[D]at j;exact Fm l c h s j
def Wz(l:List Signed)(n:Bs):BX l<|kn l n:=λh s j=>yZ (by rw[Fm l _ h s j];decide)
variable {q:bO}
def ZD(l:List Signed)(h:q.type≠5/\q.type≠3):BX l<|atI l q:=λh0 s j=>by
 have I:dG l q=true:=by
  have:=tv l q;cases H:dG l q with
  |true=>rfl
  |false=>rw[H]at this;simp at this;omega
 obtain⟨k,t,h1,D,G⟩:=wZ I;rw[h1,show((k:Nat):Int).toNat=k from Int.toNat_natCast k,D]at j;obtain rfl:t=s:=Option.some.inj j;have J:t.set.type=q.type:=congrArg Prod.snd G;exact yZ (by rw[J];exact h)
def kQ{l:List Signed}{D j:List Int}(h:∀p∈D,p<l.length/\BX l p):cz (dw l j D)=[]:=by
 unfold cz;rw[List.filter_eq_nil_iff.2,List.map_nil];intro s H;obtain⟨p,hp,_,h0,G⟩:=uq (λp hp=>(h p hp).1) s H;rw[(h p hp).2 h0 s G];simp
def Hd(I:Ordered z)(D:s∈z.af)(hp:s.place=q.place)(G:List Int):dw z.af [] (atI z.af q::G)=s::dw z.af [atI z.af q] G:=by
 obtain⟨k,t,h1,j,H⟩:=wZ<|lK.2 ⟨s,D,hp⟩;have:t=s:=RP.uniq I.rising.pw (aw j) D<|H.trans hp.symm;subst this;rw[h1,dw];simp[j]
def jh(a b:List Signed):cz (a++b)=cz a++cz b:=by
 unfold cz;rw[List.filter_append,List.map_append]
def Ej{t:Signed}(e:t.set=s.set):cz [t]=cz [s]:=by
 unfold cz nI;rw[List.filter_cons,List.filter_cons,e];split
 .rw[List.map_cons,List.map_cons,e]
 .rfl
variable {R T:List Signed}
def Ye(k:Int){t:Signed}(e:t.set=s.set)(j:cz R=[])(D:cz T=[]):rG ⟨k,s::R,[]⟩ ⟨k,t::T,[]⟩ :=
 ⟨rfl,rfl,by
  show cz ([t]++T)=cz ([s]++R)
  rw[jh,jh,j,D,Ej e],λ_=>⟨s,R,t,T,rfl,rfl,e⟩⟩
def yg(G:k≠3){c:Bs}(j:cz R=[])(D:cz T=[]):rG ⟨k,R,c⟩ ⟨k,T,c⟩:=⟨rfl,rfl,D.trans j.symm,λh=>absurd h G⟩
def SA(u:iq z q):(bQ<|vw z q).eG=[]\/aR (bQ<|vw z q).eG=true :=
 (GY<|HH u.ord.few u.val u.name u.under _ _).wv
def wu(l:List Signed)(q:bO):decide (atI l q>=0)=dG l q:=by
 have h:=tv l q;have e:decide (atI l q>=0)= !decide (atI l q<0):=by
  by_cases c:atI l q<0
  .rw[decide_eq_true c,decide_eq_false<|by omega];rfl
  .rw[decide_eq_false c,decide_eq_true<|by omega];rfl
 rw[e,h,Ic]
def Zn(h:Sk z y)(u:iq z q)(v:iq y q)(K:q.type=5):rG (dL z q).1 (dL y q).1:=by
 have hr:fF (vw y q)=fF (vw z q):=by rw[yq,yq,h.cut]
 cases G:fF (vw z q)with
 |true =>
  obtain⟨s0,R,_,p0,e,hR⟩:=u.RF G;obtain⟨t0,T,_,r0,f,hT⟩:=v.RF<|hr.trans G;have dl:∀{s0:Signed} {R:List Signed} {c:Bs},s0.place=(c,2)->(∀s∈R,s.set.type=6\/s.set.type=8\/s.set.type=1)->cz (s0::R)=[]:=λ{s0 R c} p0 hR=>by
   unfold cz;rw[List.filter_eq_nil_iff.2,List.map_nil];intro s H;have ht:s.set.type=2\/s.set.type=6\/s.set.type=8\/s.set.type=1:=by
    rcases List.mem_cons.1 H with rfl|H
    .exact .inl<|congrArg Prod.snd p0
    .exact .inr<|hR s H
   rw[yZ<|by omega];simp
  rw[e,f,h.cut];exact yg (by decide) (dl p0 λs H=>by rcases hR s H with h|h|h<;>simp[h.1]) (dl r0 λs H=>by rcases hT s H with h|h|h<;>simp[h.1])
 |false =>
 have ho:=u.ord;have hp:=v.ord;have N:q=⟨q.name,5⟩:=by cases q;cases K;rfl
 have V:exB (vw z q).af (vw z q).q.name=nY z q.name:=nX ho u.name;have U:exB (vw y q).af (vw y q).q.name=nY z q.name:=(nX hp v.name).trans<|h.ex _;have kL:xq (vw z q)=dG z.af q:=JT z q;have kM:xq (vw y q)=dG z.af q:=(JT y q).trans (by rw[N];exact h.has _<|.inr rfl);have kG:rI (vw z q)=dG z.af ⟨q.name,3⟩:=by
  show(decide (atI z.af ⟨q.name,3⟩>=0)&&q.type != 8)=_
  rw[wu,K];exact gF _
 have kH:rI (vw y q)=dG z.af ⟨q.name,3⟩:=by
  show(decide (atI y.af ⟨q.name,3⟩>=0)&&q.type != 8)=_
  rw[wu,K,h.has _<|.inl rfl];exact gF _
 rw[u.ans,v.ans];show rG (hZ<|vw z q)<|hZ<|vw y q
 unfold hZ;rw[if_neg<|show ¬fF (vw z q)=true by simp[G],if_neg<|show ¬fF (vw y q)=true by simp[hr,G],kL,kM,kG,kH,V,U]
 have one : ∀ {n : Bs} {k : Int}, (k = 3 \/ k = 5) -> dG z.af ⟨n, k⟩ = true -> ∀ (kd : Int) (ps qs : List Int), (∀ p ∈ ps, p < z.af.length /\ BX z.af p) -> (∀ p ∈ qs, p < y.af.length /\ BX y.af p) ->
     rG ⟨kd,dw z.af []<|atI z.af ⟨n,k⟩::ps,[]⟩ ⟨kd,dw y.af []<|atI y.af ⟨n,k⟩::qs,[]⟩:=λ{n k} hk hh kd ps qs h1 h2=>by
  obtain⟨s,H,t,ht,es,et,e⟩:=h.same ho hp hk hh;rw[Hd (q:=⟨n,k⟩) ho H es,Hd (q:=⟨n,k⟩) hp ht et];exact Ye kd e (kQ h1)<|kQ h2
 have j:∀(x:ax) (n:Bs),kn x.af n<x.af.length/\BX x.af (kn x.af n):=λx n=>⟨iO _ _,Wz _ _⟩
 have st:∀x:ax,atI x.af ⟨x.ag,4⟩<x.af.length/\BX x.af (atI x.af ⟨x.ag,4⟩):=λx=>⟨fD _ _,ZD _ ⟨show(4:Int)≠5 by decide,show(4:Int)≠3 by decide⟩⟩
 split
 .rename_i D;unfold Dq;rw[N]at D;show rG ⟨1,dw z.af [] [atI z.af q],[]⟩ ⟨1,dw y.af [] [atI y.af q],[]⟩
  rw[N];exact one (.inr rfl) D 1 [] [] (λp hp=>by cases hp) (λp hp=>by cases hp)
 split
 .rename_i D;exact one (.inl rfl) D 3 [] [] (λp hp=>by cases hp) (λp hp=>by cases hp)
 split
 .rename_i D;unfold ot;rw[if_pos<|V.trans D,if_pos<|U.trans D];refine yg (by decide) (kQ λp hp=>?_) (kQ λp hp=>?_)
  all_goals
   rcases List.mem_cons.1 hp with rfl|hp
   .first|exact st z|exact st y
   .rcases List.mem_cons.1 hp with rfl|hp
    .first|exact j z _|exact j y _
    .cases hp
 rename_i hx;have hx:nY z q.name=false:=by simpa using hx
 have X:(bQ<|vw z q).eG=pb (nj z.ag z.af q.name):=by unfold bQ;rw[if_neg<|by rw[V,hx];simp];rfl
 have Z:(bQ<|vw y q).eG=pb (nj z.ag z.af q.name):=by
  unfold bQ;rw[if_neg<|by rw[U,hx];simp];show pb (nj y.ag y.af q.name)=_
  unfold nj;rw[Lo h ho hp _ _ u.name]
 have J:=rC<|vw z q;have I:=rC<|vw y q;have Y:=SA u;rw[X]at Y;generalize pb (nj z.ag z.af q.name)=W at X Z Y;have qz:(bQ<|vw z q).q=q:=by unfold bQ;split<;>rfl
 have qy:(bQ<|vw y q).q=q:=by unfold bQ;split<;>rfl
 have az:(bQ<|vw z q).ag=z.ag:=by unfold bQ;split<;>rfl
 have ay:(bQ<|vw y q).ag=y.ag:=by unfold bQ;split<;>rfl
 have J:(bQ<|vw z q).af=z.af:=J;have I:(bQ<|vw y q).af=y.af:=I;have b1:vx (bQ<|vw z q)=dG z.af ⟨W,5⟩:=by unfold vx;rw[J,X,qz,K,wu]
 have b2:vx (bQ<|vw y q)=dG z.af ⟨W,5⟩:=by unfold vx;rw[I,Z,qy,K,wu,h.has _<|.inr rfl]
 have c1:iC (bQ<|vw z q)=dG z.af ⟨W,3⟩:=by unfold iC;rw[J,X,qz,K,wu];exact gF _
 have c2:iC (bQ<|vw y q)=dG z.af ⟨W,3⟩:=by unfold iC;rw[I,Z,qy,K,wu,h.has _<|.inl rfl];exact gF _
 have d12:oE (bQ<|vw y q)=oE (bQ<|vw z q):=by
  unfold oE;rw[J,I,X,Z];rcases Y with rfl|Y
  .rfl
  .rw[nX ho Y,nX hp Y,h.ex]
 rw[b1,b2,c1,c2,d12];split
 .rename_i D;unfold Bb;rw[J,I,X,Z,qz,qy,K];exact one (.inr rfl) D 2 _ _ (λp hp=>by rw[List.mem_singleton.1 hp];exact j z _) (λp hp=>by rw[List.mem_singleton.1 hp];exact j y _)
 split
 .rename_i D;unfold oC;rw[J,I,X,Z,qz,qy];exact one (.inl rfl) D 3 _ _ (λp hp=>by rw[List.mem_singleton.1 hp];exact j z _) (λp hp=>by rw[List.mem_singleton.1 hp];exact j y _)
 split
 .rename_i D;unfold oD;rw[if_pos D,if_pos<|d12.trans D];unfold jX;rw[J,I,az,ay];refine yg (by decide) (kQ λp hp=>?_) (kQ λp hp=>?_)
  all_goals
   rcases List.mem_cons.1 hp with rfl|hp
   .first|exact st z|exact st y
   .rcases List.mem_cons.1 hp with rfl|hp
    .first|exact j z _|exact j y _
    .rw[List.mem_singleton.1 hp]
     first|exact j z _|exact j y _
 .unfold qR jX;rw[J,I,az,ay];refine yg (by decide) (kQ λp hp=>?_) (kQ λp hp=>?_)
  all_goals
   rcases List.mem_cons.1 hp with rfl|hp
   .first|exact st z|exact st y
   .rcases List.mem_cons.1 hp with rfl|hp
    .first|exact j z _|exact j y _
    .rw[List.mem_singleton.1 hp];split
     .exact⟨by omega,λh=>absurd h<|by decide⟩
     .first|exact j z _|exact j y _
def PW(D ys:List al):Prop:= ∀a,(js D a=none/\js ys a=none)\/ ∃x j,js D a=some x/\js ys a=some j /\Sk x.2.ai j.2.ai
def LG{D ys:List al}(T:rh D)(U:rh ys)(N:PW D ys){q:bO}(I:eO q=true)(K:q.type=5):∀(f:Nat) (a:Bs),bd q.name a=true ->
 (iT ys (gA ys) q f a).2=(iT D (gA D) q f a).2/\((iT D (gA D) q f a).2=true->rG (iT D (gA D) q f a).1 (iT ys (gA ys) q f a).1)
 |0,a,J=>⟨rfl,λh=>by cases h⟩
 |f+1,a,J=>by
  rw[zX,zX];rcases N a with ⟨G,H⟩|⟨⟨k,x⟩,⟨k',V⟩,G,H,Z⟩
  .rw[G,H];exact⟨rfl,λh=>by cases h⟩
  .rw[G,H];obtain⟨m1,W⟩:=eL G;obtain⟨m2,X⟩:=eL H;have u:iq x.ai q:=⟨T x<|aw m1,I,by rw[W];exact J⟩
   have v:iq V.ai q:=⟨U V<|aw m2,I,by rw[X];exact J⟩
   have j:=Zn Z u v K;dsimp only;rw[j.kind];cases Y:((dL x.ai q).1.kind != 4)with
   |true=>rw[if_pos (rfl:true=true),if_pos (rfl:true=true)];exact⟨rfl,λ_=>j⟩
   |false =>
    rw[if_neg<|show ¬false=true by decide,if_neg<|show ¬false=true by decide,j.cut];exact LG T U N I K f _ (u.Dr Y).1
def BQ{j ys:List al}(K:rh j)(hw:rh ys)(X:PW j ys):∀(f:Nat) (q:bO) (l H :List Signed),eO q=true->q.type=5->cz H =cz l ->
 (gB ys f q H).2=(gB j f q l).2/\(gB ys f q H).1.kind=(gB j f q l).1.kind/\cz (gB ys f q H).1.af=cz (gB j f q l).1.af/\((gB j f q l).2=0->(gB j f q l).1.kind≠0)
 |0,q,l,H,_,_,_=>⟨rfl,rfl,rfl,λh=>by cases h⟩
 |f+1,q,l,H,G,W,Z=>by
  obtain⟨e,J⟩:(dC ys q).2=(dC j q).2/\((dC j q).2=true->rG (dC j q).1 (dC ys q).1):=LG K hw X G W _ _<|Ae q.name;unfold gB;rw[e];cases Y:(dC j q).2 with
  |false =>
   rw[if_pos (show(!false)=true from rfl),if_pos (show(!false)=true from rfl)];exact⟨rfl,rfl,rfl,λh=>by cases h⟩
  |true =>
   rw[if_neg<|show ¬(!true)=true by decide,if_neg<|show ¬(!true)=true by decide];have J:=J Y;obtain⟨p,hp,u,D,_⟩:=sA K G (x:=(dC j q).1) (by rw[<- Y]);rw[J.kind];cases hk:((dC j q).1.kind != 3)with
   |true =>
    rw[if_pos (rfl:true=true),if_pos (rfl:true=true)];refine⟨rfl,rfl,by show cz (_++_)=cz (_++_);rw[jh,jh,Z,J.plain],λ_=>?_⟩;show(dC j q).1.kind≠0
    rw[D,u.ans];show(hZ<|vw p.ai q).kind≠0
    rw[Gp]
    repeat' split
    all_goals decide
   |false =>
    rw[if_neg<|show ¬false=true by decide,if_neg<|show ¬false=true by decide];have I:(dC j q).1.kind=3:=by simpa using hk
    obtain⟨s,R,s',R',N,e2,U⟩:=J.head I;obtain⟨t,T,d,V,f2,f3,f4,f5⟩:=u.Jh (by rw[<- D];exact I);rw[<- D,N]at V;cases V;rw[N,e2];simp only[List.head?_cons,U,f4];refine BQ K hw X f ⟨d.text,q.type⟩ _ _ ?_ W (by rw[jh,jh,Z,Ej U]);unfold eO at G ⊢;simp only[aK]at G ⊢;exact⟨⟨f5,G.1.2⟩,G.2⟩
def Hy{y:aQ}(D:cT w=true)(G:cT y=true)(I:PW w.ah y.ah)(j:eO q=true)(H:q.type=5) :
 (gC y q).2=(gC w q).2/\(gC y q).1.kind=(gC w q).1.kind/\cz (gC y q).1.af=cz (gC w q).1.af/\((gC w q).2=0->(gC w q).1.kind≠0):=by
 unfold gC;rw[D,G,j,if_neg<|by simp,if_neg<|by simp];exact BQ (λp hp=>(di D p hp).1) (λp hp=>(di G p hp).1) I 9 q [] [] j H rfl
def VI(u:iq z q):∀s∈(dL z q).1.af,s∈z.af:=by
 obtain⟨G,h1,_,D⟩:=Bi (λs j=>by have:=(jY u.val s j).1;omega) q;rw[D];intro s j;obtain⟨p,_,_,_,h⟩:=uq h1 s j;exact aw h
def yB{G:List al}(N:rh G):∀(f:Nat) (q:bO) (l:List Signed),eO q=true->(∀s∈l,s.set.data.length<=100000/\s.sigs.length<=100000) ->
 (gB G f q l).1.af.length<=l.length+f+1000/\ ∀s∈(gB G f q l).1.af,s.set.data.length<=100000/\s.sigs.length<=100000
 |0,q,l,_,_=>⟨Nat.zero_le _,λs j=>by cases j⟩
 |f+1,q,l,H,K=>by
  unfold gB;cases Y:(dC G q).2 with
  |false=>exact⟨Nat.zero_le _,λs j=>by cases j⟩
  |true =>
   rw[if_neg<|show ¬(!true)=true by decide];obtain⟨p,hp,u,D,_⟩:=sA N H (x:=(dC G q).1) (by rw[<- Y]);have I:∀s∈p.ai.af,s.set.data.length<=100000/\s.sigs.length<=100000:=λs j=>by have:=jY u.val s j;omega
   cases Z:((dC G q).1.kind != 3)with
   |true =>
    rw[if_pos (rfl:true=true)];dsimp only;refine⟨?_,λs j=>?_⟩
    .rw[List.length_append,D];have:=Jl (λs j=>by have:=(jY u.val s j).1;omega) q;omega
    .rcases List.mem_append.1 j with j|j
     .exact K s j
     .rw[D]at j;exact I s<|VI u s j
   |false =>
    rw[if_neg<|show ¬false=true by decide];obtain⟨t,T,d,J,V,f3,W,X⟩:=u.Jh (by rw[<- D];simpa using Z);rw[<- D]at J;rw[J];simp only[List.head?_cons,W];have U:=yB N f ⟨d.text,q.type⟩ (l++[t]) (by
     unfold eO at H ⊢;simp only[aK]at H ⊢;exact⟨⟨X,H.1.2⟩,H.2⟩) (λs j=>by
     rcases List.mem_append.1 j with j|j
     .exact K s j
     .rw[List.mem_singleton.1 j];exact I t V)
    refine⟨?_,U.2⟩;have:=U.1;rw[List.length_append]at this;simp only[List.length_cons,List.length_nil]at this;omega
def xk{p:Signed->Bool}{x:Signed}:∀{l:List Signed} {i:Nat} {y:Signed},l[i]? =some y->(l.set i x).countP p+(if p y=true then 1 else 0)=l.countP p+(if p x=true then 1 else 0)
 |z::t,0,y,h=>by
  have h:z=y:=by simpa using h
  subst h;rw[List.set_cons_zero,List.countP_cons,List.countP_cons];omega
 |z::t,i+1,y,h=>by
  have:=xk (p:=p) (x:=x) (l:=t) (i:=i) (by simpa using h);rw[List.set_cons_succ,List.countP_cons,List.countP_cons];omega
def zH{f:Signed->Bs×Int}{x:Signed}:∀{l:List Signed} {i:Nat} {y:Signed},l[i]? =some y->f x=f y->(l.set i x).map f=l.map f
 |z::t,0,y,h,e=>by
  have h:z=y:=by simpa using h
  rw[List.set_cons_zero,List.map_cons,List.map_cons,e,h]
 |z::t,i+1,y,h,e=>by
  rw[List.set_cons_succ,List.map_cons,List.map_cons,zH (by simpa using h) e]
def OV(p:Signed->Bool)(x:Signed)(l:List Signed)(i:Nat):(l.take i++[x]++l.drop i).countP p=l.countP p+(if p x=true then 1 else 0):=by
 have h:l.countP p=(l.take i).countP p+(l.drop i).countP p:=by rw[<- List.countP_append,List.take_append_drop]
 have h1:[x].countP p=if p x=true then 1 else 0:=List.countP_singleton ..
 rw[List.countP_append,List.countP_append,h,h1];omega
def Db{s:Bs}(H:0<z.af.countP (isF s k))(h1:(bN z s k aJ d).af.countP (isF s k)<=1):(bN z s k aJ d).af.map Signed.place=z.af.map Signed.place:=by
 have j:=Ff z s k aJ d;rcases rL z s k aJ d with ⟨i,y,G,I,e⟩|⟨i,e⟩
 .rw[e]at h1 ⊢;have D:=xk (p:=isF s k) (x:=fc z s k aJ d) G;rw[if_pos j]at D;by_cases hp:isF s k y=true
  .exact zH G<|(kI.1 j).trans (kI.1 hp).symm
  .rw[if_neg hp]at D;omega
 .rw[e,OV,if_pos j]at h1;omega
def Qh{p:Signed->Bool}(z:ax)(s:Bs)(k aJ:Int)(d:List Datum)(hp:∀x:Signed,x.set.type=k->p x=false):(bN z s k aJ d).af.countP p=z.af.countP p:=by
 have D:=hp (fc z s k aJ d) rfl;rcases rL z s k aJ d with ⟨i,y,H,G,e⟩|⟨i,e⟩
 .have j:=xk (p:=p) (x:=fc z s k aJ d) H;rw[D,hp y G]at j;rw[e];simpa using j
 .rw[e,OV,D];simp
def OW{s:Bs}(h:(wfR z s k).2=true):0<z.af.countP (isF s k):=by
 unfold wfR mX at h;cases j:z.af.find? (isF s k)with
 |none=>rw[j]at h;cases h
 |some x=>exact List.countP_pos_iff.2 ⟨x,List.mem_of_find?_eq_some j,List.find?_some j⟩
def qK(z:ax):rn z=(z.af.map Signed.place).filter λp=>p.2 != 8:=by
 unfold rn cJ;rw[List.filter_map];rfl
def NY{l j :List Signed}(h:l.map (·.set)=j.map (·.set)):l.map Signed.place=j.map Signed.place:=by
 have e:∀l:List Signed,l.map Signed.place=(l.map (·.set)).map λs=>(s.name,s.type):=λl=>by rw[List.map_map];rfl
 rw[e,e,h]
def VF{K:List eo}{a b:Int}(h:(iW z K a b).2=0):(iW z K a b).1.af.map (·.set)=z.af.map (·.set):=by
 unfold iW at h ⊢;split at h
 .cases h
 rename_i j;rw[if_neg j];split at h
 .cases h
 rename_i D;rw[if_neg D];split at h
 .cases h
 rename_i G;rw[if_neg G];exact ye _ _ _ _ _ _<|sc _ _ _
def We(h:(eW z).2=0):(eW z).1=chZ z:=by
 unfold eW at h ⊢;split at h
 .cases h
 rename_i D;rw[if_neg D];split at h
 .rename_i j;exact absurd h (by simpa using j)
 rename_i j;rw[if_neg j];split at h
 .cases h
 rename_i G;rw[if_neg G];unfold chZ;have H:kN (cJ z)=(fU<|cJ z,0):=by rw[kN,if_neg<|by simp[pZ<|show aW z=true by simpa using D]]
 dsimp only;rw[yt,List.nil_append,H]
def UI(h:cY since aT y=some z):rn z=rn y/\pX z:=by
 obtain⟨h1,h2,h3,h4,D,W,X,K,e⟩:=mN h;have G:z.af.map (·.set)=(chZ<|ej y).af.map (·.set):=by rw[<- We W, <- VF X, <- e]
 have U:(ej y).af.map Signed.place=y.af.map Signed.place:=Db (OW h1)<|pg (bt D).rising.pw;refine⟨?_,λs hs K=>?_⟩
 .have V:rn (chZ<|ej y)=rn (ej y):=by unfold rn;rw[Zw D]
  rw[qK,NY G, <- qK,V,qK,U, <- qK]
 .obtain⟨hr,N⟩:=OT D;have j:s.set∈(chZ<|ej y).af.map (·.set):=by rw[<- G];exact List.mem_map.2 ⟨s,hs,rfl⟩
  obtain⟨x,hx,ex⟩:=List.mem_map.1 j;rcases (N x).1 hx with hb|⟨w,hw,rfl⟩
  .exact absurd (by rw[ex];exact K) (gi.1 hb).2
  .obtain⟨n,Z,to,_,rfl,_⟩:=zK (pZ D) (Ax<|bt D) hw;obtain⟨t,T,I,_⟩:=((xN<|pZ D).2 n).1 Z;have Y:=(gi.1 T).2;have j:t.set∈z.af.map (·.set):=by rw[G];exact List.mem_map.2 ⟨t,(N t).2<|.inl T,rfl⟩
   obtain⟨t',H,J⟩:=List.mem_map.1 j;exact⟨t',H,by rw[J, <- ex];exact I,by rw[J];exact Y⟩
def EB{v:ax}{s:Bs}(T:pX v)(K:k=2\/k=6\/k=7)(J:(wfR v s k).2=true)(h:cY since aT (bN v s k aJ d)=some z):Sk v z:=by
 obtain⟨H,j⟩:=UI h;have G:=(mN h).2.2.2.2.1;have I:(bN v s k aJ d).af.countP (isF s k)<=1:=by
  have D:(ej<|bN v s k aJ d).af.countP (isF s k)<=1:=pg (bt G).rising.pw;unfold ej at D
  rwa [Qh _ _ _ _ _ λx U=>by
   unfold isF;rw[U,show((4:Int)==k)=false by rcases K with rfl|rfl|rfl<;>rfl,kW]]at D
 refine⟨by rw[ml h];rfl,by rw[H,qK,Db (OW J) I, <- qK],λn V N =>?_,T,j⟩;rw[Oe h n (by omega)<|by omega];exact SX _ _ _ _ _ (by omega)
def Sk.refl(h:pX z):Sk z z:=⟨rfl,rfl,λ_ _ _=>rfl,h,h⟩
def Sk.trans{x:ax}(h:Sk x y)(g:Sk y z):Sk x z:=⟨g.ag.trans h.ag,g.bare.trans h.bare,λn k j=>(g.keep n k j).trans<|h.keep n k j,h.l1,g.l2⟩
def GN(w:aQ)(aJ:Int)(cut:Bs):∀(l:List Int) (z:ax),(∀n∈l,(bD (nameAt w n) cut).1=false)->dj w aJ cut l z=z
 |[],_,_=>rfl
 |n::t,z,h=>by
  show dj w aJ cut t (oc w aJ cut z n)=z
  unfold oc;rw[if_neg<|by rw[h n (List.mem_cons_self ..)];simp];exact GN w aJ cut t z λm j=>h m<|aZ _ j
structure Aq(w:aQ)(ys:List al):Prop where
 YY:ys.Pairwise λx p=>kS p x=false
 ss:∀p∈ys,aW p.ai=true/\0<=p.host/\p.host<(w.ar.length:Int)
 apx:∀p∈ys,∃q∈w.ah,q.ai.ag=p.ai.ag
def uF{w:aQ}:∀(l:List al) {ys:List al},(∀p∈l,p.ai.af=[]\/(aW p.ai=true/\0<=p.host/\p.host<(w.ar.length:Int)/\ ∃q∈w.ah,q.ai.ag=p.ai.ag))->Aq w ys->Aq w (l.foldl bT ys)
 |[],ys,_,h=>h
 |p::t,ys,H,h=>by
  refine uF t (λq j=>H q<|aZ _ j) ⟨?_,λq j=>?_,λq j=>?_⟩
  .unfold bT;rw[List.pairwise_append];refine⟨h.YY.filter _,?_,λa D b G=>?_⟩
   .split
    .exact List.Pairwise.nil
    .exact List.pairwise_singleton ..
   .split at G
    .cases G
    .rw[List.mem_singleton.1 G];have D:=(List.mem_filter.1 D).2;unfold kS;simp only[Bool.or_eq_true,bne_iff_ne,ne_eq]at D;simp only[Bool.and_eq_false_iff,beq_eq_false_iff_ne,ne_eq];rcases D with D|D
     .exact .inl λe=>D e.symm
     .exact .inr λe=>D e.symm
  .rcases eK.1 j with ⟨j,_⟩|⟨I,rfl⟩
   .exact h.ss q j
   .rcases H q (List.mem_cons_self ..)with h0|h0
    .exact absurd h0 I
    .exact⟨h0.1,h0.2.1,h0.2.2.1⟩
  .rcases eK.1 j with ⟨j,_⟩|⟨I,rfl⟩
   .exact h.apx q j
   .rcases H q (List.mem_cons_self ..)with h0|h0
    .exact absurd h0 I
    .exact h0.2.2.2
def base_start(h:cT w=true):Aq w w.ah:=⟨Ox h,di h,λp hp=>⟨p,hp,rfl⟩⟩
def atW(w:aQ)(ys:List al):aQ:=⟨w.ar,ys,w.anchor,w.hints⟩
variable {ys:List al}
def Qg(j:cT w=true)(h:Aq w ys)(W:ys.length<=4000):cT (atW w ys)=true:=by
 unfold cT pH at j ⊢;simp only[aK,decide_eq_true_eq]at j ⊢;obtain⟨⟨h1,⟨U,V⟩,I⟩,J⟩:=j;refine⟨⟨h1,⟨by show(ys.length:Int)<=4000;omega,?_⟩,?_⟩,J⟩
 .rw[yT];refine⟨λp hp=>⟨?_,rfl⟩,h.YY⟩;obtain⟨H,T,D⟩:=h.ss p hp;have D:p.host<((atW w ys).ar.length:Int):=D;simp only[Bool.or_eq_false_iff,decide_eq_false_iff_not,Bool.not_eq_false'];exact⟨⟨by omega,by omega⟩,H⟩
 .rw[OI]at I;show((apx ys).length:Int)<=500
  rw[OI];have:=GZ (vC ys).1 λa K=>by
   obtain⟨p,hp,e⟩:=((vC ys).2 a).1 K;obtain⟨q,N,G⟩:=h.apx p hp;exact((vC w.ah).2 a).2 ⟨q,N,G.trans e⟩
  omega
def SkA(j ys:List al)(a:Bs):Prop:=(∀p∈j,p.ai.ag≠a)\/ ∃z y,nd j a z/\nd ys a y/\Sk z y
def all_copy(h:nd zs a z):∃x,js zs a=some x/\x.2.ai=z:=by
 obtain⟨⟨p,hp,e⟩,j⟩:=h;cases D:js zs a with
 |none=>exact absurd e<|Qw D p hp
 |some x =>
  obtain⟨k,q⟩:=x;obtain⟨h1,G⟩:=eL D;exact⟨_,rfl,j q (aw h1) G⟩
def PG(I:Aq w ys)(h:∀a,SkA w.ah ys a):PW w.ah ys:=λa=>by
 rcases h a with hn|⟨z,y,h1,h2,hs⟩
 .refine .inl ⟨?_,?_⟩
  .exact Gz.2 hn
  .refine Gz.2 λp hp e=>?_
   obtain⟨q,J,j⟩:=I.apx p hp;exact hn q J<|j.trans e
 .obtain⟨x,D,j⟩:=all_copy h1;obtain⟨K,G,H⟩:=all_copy h2;exact .inr ⟨x,K,D,G,by rw[j,H];exact hs⟩
structure sk(w:aQ)(ys:List al):Prop where
 base:Aq w ys
 FZ:∀a,SkA w.ah ys a
 len:ys.length<=4000
structure vB(w:aQ)(l:List (List al))(zs:List al):Prop where
 here:yv w l=zs
 all:∀k,k<=l.length->sk w (yv w (l.take k))
def vB.start(h:sk w w.ah):vB w [] w.ah:=⟨rfl,λk j=>by rw[List.take_nil];exact h⟩
def vB.add(h:vB w l zs){s:List al}(G:sk w<|s.foldl bT zs):vB w (l++(if s=[]then[]else[s]))<|s.foldl bT zs:=by
 by_cases e:s=[]
 .subst e;rw[if_pos rfl,List.append_nil];exact h
 .rw[if_neg e];have j:yv w (l++[s])=s.foldl bT zs:=by unfold yv;rw[List.foldl_append];show s.foldl bT (yv w l)=_;rw[h.here]
  refine⟨j,λk D=>?_⟩;rcases Nat.lt_or_ge l.length k with hk' |hk'
  .have:k=(l++[s]).length:=by simp at D ⊢;omega
   rw[this,List.take_length,j];exact G
  .rw[List.take_append_of_le_length hk'];exact h.all k hk'
def Jj{l:List al}(J:z.af≠[])(D:∀p∈l,p.ai=z)(G:∀q∈zs,q.ai.ag=z.ag-> ∃p∈l,p.host=q.host)(I:∃p∈zs,p.ai.ag=z.ag):nd (l.foldl bT zs) z.ag z:=by
 refine⟨vm _ (λp h=>by rw[D p h];exact J) I,λq H j=>?_⟩;rcases EL _ D q H with h' |⟨h1,h2⟩
 .exact h'
 .obtain⟨p,hp,e⟩:=G q h1 j;rcases h2 p hp with h|h
  .exact absurd e h
  .exact absurd j h
def zn{q:al}:∀(l:List al) {j:List al},(∀p∈l,p.host≠q.host\/p.ai.ag≠q.ai.ag)->q∈j->q∈l.foldl bT j
 |[],j,_,h=>h
 |p::t,j,D,h=>zn t (λr G=>D r<|aZ _ G)<|eK.2<|.inl ⟨h,(D p (List.mem_cons_self ..)).imp (λh e=>h e.symm) λh e=>h e.symm⟩
def Kg{p:al}(hp:p.ai.af≠[]):∀(l:List al) {j:List al},(∀q∈l,q.host=p.host->q.ai.ag=p.ai.ag->q=p)->(p∈l\/p∈j)->p∈l.foldl bT j
 |[],j,_,h=>h.resolve_left (by simp)
 |q::t,j,G,h=>by
  refine Kg hp t (λr I=>G r<|aZ _ I) ?_;by_cases e:q=p
  .exact .inr<|eK.2<|.inr ⟨by rw[e];exact hp,e.symm⟩
  .rcases h with h|h
   .rcases List.mem_cons.1 h with h|h
    .exact absurd h.symm e
    .exact .inl h
   .refine .inr<|eK.2<|.inl ⟨h,?_⟩;by_cases D:p.host=q.host
    .exact .inr λH=>e<|G q (List.mem_cons_self ..) D.symm H.symm
    .exact .inl D
def GK:∀(l:List al) {j:List al},(∀p∈l,p.ai.af=[])-> ∀q∈l.foldl bT j,q∈j
 |[],j,_,q,h=>h
 |p::t,j,D,q,h=>by
  rcases eK.1 (GK t (λr G=>D r<|aZ _ G) q h)with ⟨h,_⟩|⟨h,_⟩
  .exact h
  .exact absurd (D p (List.mem_cons_self ..)) h
def zT{l:List al}(h:SkA zs ys a)(j:∀p∈l,p.ai.ag≠a):SkA zs (l.foldl bT ys) a:=by
 rcases h with h|⟨z,y,h1,h2,hs⟩
 .exact .inl h
 .exact .inr ⟨z,y,h1,h2.fold l j,hs⟩
def Kr(w:aQ){a:Bs}{n:Int}:∀(l:List al) (g:List<|Bs×List Int),n∈bz g a->n∈bz (dA w g l) a
 |[],g,h=>h
 |p::t,g,h=>by
  show n∈bz (dA w (jT w g p) t) a
  refine Kr w t _ ?_;unfold jT;split
  .rw[AE];split
   .rename_i e;rw[<- e];exact List.mem_append.2<|.inl h
   .exact h
  .exact h
def TN(w:aQ):∀(l:List al) (g:List<|Bs×List Int) (p:al),p∈l->p.ai.af≠[]->w.ah.any (ff p.host p.ai.ag)=false->p.host∈bz (dA w g l) p.ai.ag
 |q::t,g,p,hp,G,D=>by
  show p.host∈bz (dA w (jT w g q) t) p.ai.ag
  rcases List.mem_cons.1 hp with rfl|hp
  .refine Kr w t _ ?_;unfold jT;split
   .rw[AE,if_pos rfl];exact List.mem_append.2<|.inr<|List.mem_singleton.2 rfl
   .rename_i j;unfold kY at j;rw[D]at j;have H:decide ((p.ai.af.length:Int)>0)=true:=decide_eq_true (by
     have:p.ai.af.length≠0:=λe=>G<|List.eq_nil_of_length_eq_zero e
     omega)
    rw[H]at j;simpa using j
  .exact TN w t _ p hp G D
def GG(J:cT w=true)(D:∀p∈w.ah,∀q∈w.ah,p.ai.ag=q.ai.ag->p.ai=q.ai)(j:∀p∈w.ah,pX p.ai)(K:w.ah.length<=20):sk w w.ah:=by
 refine⟨base_start J,λa=>?_,by omega⟩;by_cases h:∃p∈w.ah,p.ai.ag=a
 .obtain⟨p,hp,e⟩:=h;have G:nd w.ah a p.ai:=⟨⟨p,hp,e⟩,λq I H=>D q I p hp<|H.trans e.symm⟩
  exact .inr ⟨p.ai,p.ai,G,G,.refl<|j p hp⟩
 .exact .inl λp hp e=>h ⟨p,hp,e⟩
def xz{l:List al}{D:ax}(h:sk w ys)(H:aW z=true)(j:∀p∈l,p.ai=z)(G:∀p∈l,cr w p.host=true)(J:∀q∈ys,q.ai.ag=z.ag-> ∃p∈l,p.host=q.host)(h0:nd w.ah z.ag D)(N:Sk D z)(K:ys.length+l.length<=4000):sk w<|l.foldl bT ys:=by
 refine⟨uF l (λp hp=> .inr ⟨by rw[j p hp];exact H,?_,?_,?_⟩) h.base,λa=>?_,Nat.le_trans (iE l ys) K⟩
 .have:=G p hp;unfold cr at this;simp only[aK,decide_eq_true_eq]at this;omega
 .have:=G p hp;unfold cr at this;simp only[aK,decide_eq_true_eq]at this;omega
 .rw[j p hp];exact h0.1
 .by_cases e:a=z.ag
  .subst e;rcases h.FZ z.ag with hJ|⟨z',y,h1,h2,_⟩
   .obtain⟨p,hp,e⟩:=h0.1;exact absurd e<|hJ p hp
   .exact .inr ⟨D,z,h0,Jj (oB H) j J h2.1,N⟩
  .exact zT (h.FZ a) λp hp I=>e (by rw[<- I,j p hp])
def Lu{p:al}(h:p∈cg z zs):p.ai=z/\ ∃q∈zs,q.ai.ag=z.ag/\q.host=p.host:=by
 unfold cg at h;obtain⟨q,j,rfl⟩:=List.mem_map.1 h;have j:=List.mem_filter.1 j;exact⟨rfl,q,j.1,eq_of_beq j.2,rfl⟩
def zW{q:al}(h:q∈zs)(e:q.ai.ag=z.ag):(⟨q.host,z⟩:al)∈cg z zs:=by
 unfold cg;exact List.mem_map.2 ⟨q,List.mem_filter.2 ⟨h,by simp[e]⟩,rfl⟩
def AX(z:ax)(j:List al):(cg z j).length<=j.length:=by
 unfold cg;rw[au];exact List.length_filter_le ..
def GO(D:cT w=true):∀p∈w.ah,cr w p.host=true:=λp hp=>by
 obtain⟨_,h1,j⟩:=di D p hp;exact WZ h1 j
def Cp{D:ax}(h:sk w ys)(T:cT w=true)(N:aW z=true)(I:CS w.ah ys z.ag)(h0:nd w.ah z.ag D)(K:Sk D z)(U:ys.length+w.ah.length<=4000):sk w<|(cg z w.ah).foldl bT ys:=by
 refine xz h N (λp hp=>(Lu hp).1) (λp hp=>?_) (λq j e=>?_) h0 K (by have:=AX z w.ah;omega)
 .obtain⟨_,q,j,_,e⟩:=Lu hp;rw[<- e];exact GO T q j
 .obtain⟨r,J,H,G⟩:=I q j e;exact⟨_,zW J H,G⟩
def Ub{o o2:bB}(h:sS o x=some o2)(W:cT o.w=true)(G:∀p∈o.w.ah,∀q∈o.w.ah,p.ai.ag=q.ai.ag->p.ai=q.ai)(D:∀p∈o.w.ah,pX p.ai)(hn:o.w.ah.length<=20)(hc:(cq o.w.ah x.ai).2=true)(hz:o.ai=(cq o.w.ah x.ai).1)(hs:o.bu=[])(xc:o.aF=[])(hg:o.got=[]):∃zs,vB o.w o2.bu zs:=by
 have hv:IY o.w.ah:=λp hp=>(di W p hp).1
 unfold sS at h;split at h
 case isFalse=>cases h
 rename_i kJ;obtain⟨a,k1,X,hd,U,e1⟩:=Bg hv kJ;obtain⟨k0,N,T,e0⟩:=rP hv hc;rw[e1]at h;have ez:o.ai=N.ai:=hz.trans e0;have Z:=(eL T).2;have a1:=(eL U).2;have m0:=aw (eL T).1;have m1:=aw (eL U).1;unfold DG at h;split at h
 case isFalse=>cases h
 rename_i V;split at h
 .cases h
 rename_i z H;unfold rV at h;split at h
 case isFalse=>cases h
 rename_i kV;split at h
 .cases h
 rename_i j J;unfold zB at h;split at h
 .cases h
 rename_i I K;cases h;rw[ez]at H V;have az:z.ag=x.ai:=by rw[ml H,rK];exact Z
 have kx:j.ag=a:=by rw[ml J,rK];exact a1
 have ky:I.ag=x.ai:=by rw[ml K,rK];exact az
 have v1:=eT H;have v2:=eT J;have v3:=eT K;have s1:Sk N.ai z:=EB (D N m0) (.inr<|.inr rfl) V H;have s2:Sk X.ai j:=EB (D X m1) (.inr<|.inl rfl) kV J;have s3:Sk N.ai I:=s1.trans<|EB s1.l2 (.inr<|.inr rfl) (by rw[RT H (by decide)<|by decide]) K;have A0:nd o.w.ah x.ai N.ai:=⟨⟨N,m0,Z⟩,λp hp e=>G p hp N m0<|by rw[e,Z]⟩
 have A1:nd o.w.ah a X.ai:=⟨⟨X,m1,a1⟩,λp hp e=>G p hp X m1<|by rw[e,a1]⟩
 have Y:∀b,CS o.w.ah o.w.ah b:=λb q hq e=>⟨q,hq,e,rfl⟩
 have f0:=GG W G D hn;have f1:=Cp (z:=z) f0 W v1 (Y _) (by rw[az];exact A0) s1 (by omega);have l1:=iE (cg z o.w.ah) o.w.ah;have n1:=AX z o.w.ah;have f2:=Cp (z:=j) f1 W v2 (su<|Y _) (by rw[kx];exact A1) s2 (by omega);have l2:=iE (cg j o.w.ah)<|(cg z o.w.ah).foldl bT o.w.ah;have n2:=AX j o.w.ah;have f3:=Cp (z:=I) f2 W v3 (su<|su<|Y _) (by rw[ky];exact A0) s3 (by omega);have pE:∀z:ax,cg z o.w.ah++cU z (bz o.got z.ag)=cg z o.w.ah:=λz=>by
  rw[hg];show _++[]=_;rw[List.append_nil]
 have xi:(cR<|ba (cR<|ba (cR<|ba o z) j) I).bu=(([]++(if cg z o.w.ah=[]then[]else[cg z o.w.ah]))++(if cg j o.w.ah=[]then[]else[cg j o.w.ah]))++(if cg I o.w.ah=[]then[]else[cg I o.w.ah]):=by
  have p1:(ba o z).aF=cg z o.w.ah:=by show o.aF++_++_=_;rw[xc,List.nil_append];exact pE z
  have p2:(ba (cR<|ba o z) j).aF=cg j o.w.ah:=by show[]++_++_=_;rw[List.nil_append];exact pE j
  have p3:(ba (cR<|ba (cR<|ba o z) j) I).aF=cg I o.w.ah:=by show[]++_++_=_;rw[List.nil_append];exact pE I
  show((o.bu++(if (ba o z).aF=[]then[]else[(ba o z).aF]))++(if (ba (cR<|ba o z) j).aF=[]then[]else[(ba (cR<|ba o z) j).aF]))++(if (ba (cR<|ba (cR<|ba o z) j) I).aF=[]then[]else[(ba (cR<|ba (cR<|ba o z) j) I).aF])=_
  rw[p1,p2,p3,hs]
 rw[xi];exact⟨_,(((vB.start f0).add f1).add f2).add f3⟩
def Ur{o o2:bB}(h:sU o x=some o2)(hw:cT o.w=true)(Z:∀p∈o.w.ah,∀q∈o.w.ah,p.ai.ag=q.ai.ag->p.ai=q.ai)(I:∀p∈o.w.ah,pX p.ai)(hn:o.w.ah.length<=20)(hc:(cq o.w.ah x.ai).2=true)(hz:o.ai=(cq o.w.ah x.ai).1)(h2:(wfR o.ai x.ai 2).2=true)(hs:o.bu=[])(hg:o.got=[])
 (xo:x.ar≠[]) (xp:x.ar.length<=8) (km:∀n∈x.ar,cr o.w n=true) (hJ:∀n∈x.ar,(bD (nameAt o.w n) x.ai).1=false):∃zs,vB o.w o2.bu zs:=by
 have hv:IY o.w.ah:=λp hp=>(di hw p hp).1
 unfold sU at h;split at h
 case isFalse=>cases h
 rename_i T;obtain⟨a,k1,q1,hd,ki,e1⟩:=Bg hv T;have hE:(wfR (dQ o.w.ah x.ai).1 x.ai 2).2=true:=by
  unfold dQ at T ⊢;split at T
  case isFalse=>cases T
  rename_i g1;rw[if_pos g1];split at T
  case isFalse=>cases T
  rename_i g2;rw[if_pos g2];exact g2
 obtain⟨k0,N,kh,e0⟩:=rP hv hc;rw[e1]at h hE;have ez:o.ai=N.ai:=hz.trans e0;have a0:=(eL kh).2;have a1:=(eL ki).2;have m0:=aw (eL kh).1;have m1:=aw (eL ki).1;have v0:=hv N m0;unfold ug at h;split at h
 .cases h
 rename_i j U;split at h
 .cases h
 rename_i H V;cases h;have mv:∀z:ax,AL (fp {o with aF:=cW o x x.ar}) x z=bN z x.ai 2 o.aJ (cZ o.w x.ar):=λz=>GN _ _ _ _ _ hJ
 rw[mv]at U V;rw[ez]at h2;have U:cY o.since o.aT (bN N.ai x.ai 2 o.aJ<|cZ o.w x.ar)=some j:=by rw[<- ez];exact U
 have V:cY o.since o.aT (bN q1.ai x.ai 2 o.aJ<|cZ o.w x.ar)=some H:=V;have az:j.ag=x.ai:=by rw[ml U,rK];exact a0
 have W:H.ag=a:=by rw[ml V,rK];exact a1
 have v1:=eT U;have v2:=eT V;have s1:Sk N.ai j:=EB (I N m0) (.inl rfl) h2 U;have s2:Sk q1.ai H:=EB (I q1 m1) (.inl rfl) hE V;have A0:nd o.w.ah x.ai N.ai:=⟨⟨N,m0,a0⟩,λp hp e=>Z p hp N m0<|by rw[e,a0]⟩
 have A1:nd o.w.ah a q1.ai:=⟨⟨q1,m1,a1⟩,λp hp e=>Z p hp q1 m1<|by rw[e,a1]⟩
 have f0:=GG hw Z I hn;have g0:∀p∈cW o x x.ar,p.ai=N.ai/\p.host∈x.ar/\o.w.ah.any (ff p.host x.ai)=false:=λp hp=>by
  unfold cW at hp;obtain⟨n,hn,rfl⟩:=List.mem_map.1 hp;have hn:=List.mem_filter.1 hn;exact⟨ez,hn.1,by simpa using hn.2⟩
 have gl:(cW o x x.ar).length<=8:=Nat.le_trans (Fz o x x.ar) xp;have f1:sk o.w<|(cW o x x.ar).foldl bT o.w.ah:=by
  refine⟨uF _ (λp hp=>?_) f0.base,λb=>?_,by have:=iE (cW o x x.ar) o.w.ah;omega⟩
  .obtain⟨c1,c2,_⟩:=g0 p hp;have hh:=km _ c2;unfold cr at hh;simp only[aK,decide_eq_true_eq]at hh;exact .inr ⟨by rw[c1];exact v0,by omega,by omega,N,m0,by rw[c1]⟩
  .by_cases e:b=x.ai
   .subst e;refine .inr ⟨N.ai,N.ai,A0,⟨vm _ (λp hp=>by rw[(g0 p hp).1];exact oB v0) A0.1,λq D ha=>?_⟩,.refl<|I N m0⟩;rcases pk _ D with D|D
    .exact A0.2 q D ha
    .exact(g0 q D).1
   .exact zT (f0.FZ b) λp hp e2=>e (by rw[<- e2,(g0 p hp).1,a0])
 generalize Y:dA o.w [] (cW o x x.ar)=G
 have hG:(fp {o with aF:=cW o x x.ar}).got=G:=by show dA o.w o.got _=G;rw[hg];exact Y
 have X:CR o.w (cW o x x.ar).length G:=by
  have:=Pf (w:=o.w) (cW o x x.ar) (ZP o.w) λp hp=>km _ (g0 p hp).2.1;rw[Nat.zero_add,Y]at this;exact this
 have K:∀p∈cW o x x.ar,p.host∈bz G x.ai:=λp hp=>by
  obtain⟨c1,c2,c3⟩:=g0 p hp;have:=TN o.w (cW o x x.ar) [] p hp (by rw[c1];exact oB v0) (by rw[c1,a0];exact c3);rw[Y,c1,a0]at this;exact this
 have hA:∀(z:ax) (p:al),p∈cg z o.w.ah++cU z (bz G z.ag)->cr o.w p.host=true:=λz p hp=>by
  rcases List.mem_append.1 hp with hp|hp
  .obtain⟨_,q,D,_,e⟩:=Lu hp;rw[<- e];exact GO hw q D
  .unfold cU at hp;obtain⟨n,hn,rfl⟩:=List.mem_map.1 hp;exact(X _).2 n hn
 have J:∀z:ax,(cg z o.w.ah++cU z (bz G z.ag)).length<=28:=λz=>by
  rw[List.length_append];unfold cU;rw[au];have:=AX z o.w.ah;have:=(X z.ag).1;omega
 have L0:=iE (cW o x x.ar) o.w.ah;have f2:sk o.w<|(cg j o.w.ah++cU j (bz G j.ag)).foldl bT<|(cW o x x.ar).foldl bT o.w.ah:=by
  refine xz f1 v1 (λp hp=>pA p hp) (hA j) (λq D e=>?_) (by rw[az];exact A0) s1 (by have:=J j;omega);rcases pk _ D with D|D
  .exact⟨_,List.mem_append.2<|.inl<|zW D e,rfl⟩
  .refine⟨⟨q.host,j⟩,List.mem_append.2<|.inr ?_,rfl⟩;unfold cU;exact List.mem_map.2 ⟨q.host,by rw[az];exact K q D,rfl⟩
 have L1:=iE (cg j o.w.ah++cU j (bz G j.ag))<|(cW o x x.ar).foldl bT o.w.ah;have f3:sk o.w<|(cg H o.w.ah++cU H (bz G H.ag)).foldl bT<|(cg j o.w.ah++cU j (bz G j.ag)).foldl bT<|(cW o x x.ar).foldl bT o.w.ah:=by
  refine xz f2 v2 (λp hp=>pA p hp) (hA H) (λq D e=>?_) (by rw[W];exact A1) s2 (by have:=J j;have:=J H;omega);rcases pk _ D with D|D
  .rcases pk _ D with D|D
   .exact⟨_,List.mem_append.2<|.inl<|zW D e,rfl⟩
   .rw[(g0 q D).1,a0,W]at e;exact absurd e.symm hd
  .rw[pA q D,az,W]at e;exact absurd e.symm hd
 have L2:=iE (cg H o.w.ah++cU H (bz G H.ag))<|(cg j o.w.ah++cU j (bz G j.ag)).foldl bT<|(cW o x x.ar).foldl bT o.w.ah;have Z1:nd ((cg j o.w.ah++cU j (bz G j.ag)).foldl bT<|(cW o x x.ar).foldl bT o.w.ah) x.ai j:=by
  rw[<- az];refine Jj (oB v1) (λp hp=>pA p hp) (λq D e=>?_) (by rw[az];exact vm _ (λp hp=>by rw[(g0 p hp).1];exact oB v0) A0.1);rcases pk _ D with D|D
  .exact⟨_,List.mem_append.2<|.inl<|zW D e,rfl⟩
  .refine⟨⟨q.host,j⟩,List.mem_append.2<|.inr ?_,rfl⟩;unfold cU;exact List.mem_map.2 ⟨q.host,by rw[az];exact K q D,rfl⟩
 have Z2:nd ((cg H o.w.ah++cU H (bz G H.ag)).foldl bT<|(cg j o.w.ah++cU j (bz G j.ag)).foldl bT<|(cW o x x.ar).foldl bT o.w.ah) x.ai j:=Z1.fold _ λp hp=>by rw[pA p hp,W];exact hd
 have st0:∀p∈gh x o.w.ah,p.ai=⟨x.ai,[]⟩/\x.ar.contains p.host=false:=λp hp=>by
  unfold gh at hp;obtain⟨q,D,rfl⟩:=List.mem_map.1 hp;have D:=(List.mem_filter.1 D).2;simp only[aK,Bool.not_eq_true']at D;exact⟨rfl,D.2⟩
 have f4:sk o.w<|(gh x o.w.ah).foldl bT<|(cg H o.w.ah++cU H (bz G H.ag)).foldl bT<|(cg j o.w.ah++cU j (bz G j.ag)).foldl bT<|(cW o x x.ar).foldl bT o.w.ah:=by
  refine⟨uF _ (λp hp=> .inl<|by rw[(st0 p hp).1]) f3.base,λb=>?_,?_⟩
  .by_cases e:b=x.ai
   .subst e;obtain⟨n0,t,hN⟩:∃n t,x.ar=n::t:=by
     cases hh:x.ar with
     |nil=>exact absurd hh xo
     |cons n t=>exact⟨n,t,rfl⟩
    have kj:n0∈x.ar:=by rw[hN];exact List.mem_cons_self ..
    have p1:(⟨n0,j⟩:al)∈(cg j o.w.ah++cU j (bz G j.ag)).foldl bT ((cW o x x.ar).foldl bT o.w.ah):=by
     refine Kg (oB v1) _ (λq D e _=>?_)<|.inl ?_
     .have hY:=pA q D;cases q with|mk qh qz=>cases hY;cases e;rfl
     .cases hany:o.w.ah.any (ff n0 x.ai)with
      |true =>
       obtain⟨q,D,hf⟩:=List.any_eq_true.1 hany;unfold ff at hf;simp only[aK,decide_eq_true_eq,beq_iff_eq]at hf;rw[<- hf.1];exact List.mem_append.2 (.inl<|zW D<|by rw[az];exact hf.2)
      |false =>
       have kT:(⟨n0,o.ai⟩:al)∈cW o x x.ar:=by
        unfold cW;exact List.mem_map.2 ⟨n0,List.mem_filter.2 ⟨kj,by rw[hany];rfl⟩,rfl⟩
       refine List.mem_append.2<|.inr ?_;unfold cU;exact List.mem_map.2 ⟨n0,by rw[az];exact K _ kT,rfl⟩
    have p2:=zn (q:=⟨n0,j⟩) (cg H o.w.ah++cU H (bz G H.ag)) (λp hp=> .inr<|by rw[pA p hp,W];show a≠j.ag;rw[az];exact hd) p1;have p3:=zn (q:=⟨n0,j⟩) (gh x o.w.ah) (λp hp=> .inl λe=>by
     have:=(st0 p hp).2;have e:p.host=n0:=e;rw[e,iJ.2 kj]at this;cases this) p2
    exact .inr ⟨N.ai,j,A0,⟨⟨_,p3,az⟩,λq D ha=>Z2.2 q (GK _ (λp hp=>by rw[(st0 p hp).1]) q D) ha⟩,s1⟩
   .exact zT (f3.FZ b) λp hp e2=>e (by rw[<- e2,(st0 p hp).1])
  .have:=iE (gh x o.w.ah)<|(cg H o.w.ah++cU H (bz G H.ag)).foldl bT<|(cg j o.w.ah++cU j (bz G j.ag)).foldl bT<|(cW o x x.ar).foldl bT o.w.ah;have:=CN x o.w.ah;have:=J j;have:=J H;omega
 have hP:(ba (ba (fp {o with aF:=cW o x x.ar}) j) H).aF=(cg j o.w.ah++cU j (bz G j.ag))++(cg H o.w.ah++cU H (bz G H.ag)):=by
  show([]++cg j o.w.ah++cU j (bz (fp {o with aF:=cW o x x.ar}).got j.ag))++cg H o.w.ah++cU H (bz (fp {o with aF:=cW o x x.ar}).got H.ag)=_
  rw[hG,List.nil_append,List.append_assoc]
 have e:(DT (ba (ba (fp {o with aF:=cW o x x.ar}) j) H) x).bu=((o.bu++(if cW o x x.ar=[]then[]else[cW o x x.ar]))++(if (ba (ba (fp {o with aF:=cW o x x.ar}) j) H).aF=[]then[]else[(ba (ba (fp {o with aF:=cW o x x.ar}) j) H).aF]))++(if gh x o.w.ah=[]then[]else[gh x o.w.ah]):=by
  rfl
 rw[e,hP,hs];have F2:=((vB.start f0).add f1).add (s:=(cg j o.w.ah++cU j (bz G j.ag))++(cg H o.w.ah++cU H (bz G H.ag))) (by rw[List.foldl_append];exact f3);exact⟨_,F2.add<|by rw[List.foldl_append];exact f4⟩
def OE(w:aQ):∀l:List (List al),l.foldl lD w=atW w (yv w l):=λl=>by
 have key:∀(l:List<|List al) (j:List al),l.foldl lD (atW w j)=atW w (l.foldl (λj s=>s.foldl bT j) j):=λl=>by
  induction l with
  |nil=>intro j;rfl
  |cons s t D=>intro j;exact D _
 exact key l w.ah
def NZ{l:List Signed}{k:Nat}(h:l[k]? =some s):cz (l.take<|k+1)=cz (l.take k)++(if nI s=true then[s.set]else[]):=by
 rw[cj h,jh]
 congr 1
 unfold cz;rw[List.filter_cons];split<;>rfl
def Ei(l:List Signed):(cz l).length<=l.length:=by
 unfold cz;rw[au];exact List.length_filter_le ..
def oO(l:List Signed)(i:Nat):Bool:=match l[i]? with
 |some s=> !((s.set.type==8)&&(decide (i=0)||match l[i-1]? with|some t=>t.set.name != s.set.name|none=>true))
 |none=>true
def xF(z:ax):Bool:=(List.range z.af.length).all<|oO z.af
def oq(w:aQ):Bool:=w.ah.all λp=>xF p.ai
def Xq(J:Ordered z)(h:xF z=true):pX z:=λs K G=>by
 obtain⟨i,j⟩:=cO K;have D:=(aA.1 j).1;unfold xF at h;rw[aG]at h;have h1:=h i<|List.mem_range.2 D;unfold oO at h1;rw[j]at h1;dsimp only at h1;rw[G]at h1;rcases i with _|i
 .simp at h1
 .have hp:z.af[i]? =some z.af[i]:=ao (by omega);rw[show i+1-1=i from rfl,hp]at h1;simp at h1;have I:z.af[i]∈z.af:=List.getElem_mem _;refine⟨z.af[i],I,h1,λH=>?_⟩;have:z.af[i].place=s.place:=by unfold Signed.place;rw[h1,H,G]
  have e:=UB J.rising.pw hp j this;omega
def Eg(a:Ans)(U:a.af.length<=100000):NQ.Fn cx 11 [.agg<|jr a] (.tuple [aj a.kind,.d<|.slice 4<|(cz a.af).map bV]) []:=by
 refine bL bf mixed Tryz.func11 ?_
 refine ⟨Nat, fun k => ⟨[(1, .ptr 1 0), (4, .own 4), (8, .d<|.slice 5<|a.af.map an), (9, aj ((a.af.map an).length : Int)), (10, aj k)],
     [(1,.box<|(jr a).map .d),(4,.row 26 4<|(cz<|a.af.take k).map bV)]⟩,λk=>k<=a.af.length,λk=>a.af.length-k,
  ⟨0,Nat.zero_le _,(aI.kz 4 4 4 26 4 rfl rfl<|by decide).trans<|aI.keep⟩,λk T=>?_⟩
 dsimp only at T ⊢;conv=>whnf
 refine aD ?_ ?_<;>intro h1
 case refine_2 =>
  obtain rfl:k=a.af.length:=by simp at h1;omega
  rw[List.take_length];exact ak rfl rfl
 have j:k<a.af.length:=by simp at h1;omega
 obtain⟨s,N⟩:∃s,a.af[k]? =some s:=⟨_,ao j⟩
 have D:=NZ N;have V:(cz<|a.af.take k).length<=100000:=Nat.le_trans (Ei _)<|Nat.le_trans (List.length_take_le' k a.af) U;refine⟨aB k,an s,aL N,M ?_⟩
 have put:nI s=true->some (Blk.row 26 4<|(cz<|a.af.take k).map bV++[bV s.set])=some (Blk.row 26 4<|(cz<|a.af.take<|k+1).map bV):=λh=>by
  rw[D,if_pos h,List.map_append];rfl
 have G:nI s=false->some (Blk.row 26 4<|(cz<|a.af.take k).map bV)=some (Blk.row 26 4<|(cz<|a.af.take<|k+1).map bV):=λh=>by
  rw[D,if_neg<|by rw[h];simp,List.append_nil]
 have H:((cz<|a.af.take k).map bV).length+1<=9223372036854775807:=by rw[au];omega
 have I:(((cz<|a.af.take k).map bV).length+1)*56<=140737488355328:=by rw[au];omega
 refine aD ?_ ?_<;>intro J
 .refine⟨H,I,M ?_⟩
  exact⟨k+1,j,by(show a.af.length-(k+1)<a.af.length-k;omega),aI.keep ⟨ae,ae,ae,ae,⟨bj<|by omega,rfl⟩,trivial⟩ ⟨ae,⟨put<|by unfold nI;rw[show(s.set.type==5)=true from J];rfl,rfl⟩,trivial⟩⟩
 .refine aD ?_ ?_<;>intro K
  .refine⟨H,I,M ?_⟩
   exact⟨k+1,j,by(show a.af.length-(k+1)<a.af.length-k;omega),aI.keep ⟨ae,ae,ae,ae,⟨bj<|by omega,rfl⟩,trivial⟩ ⟨ae,⟨put<|by unfold nI;rw[show(s.set.type==3)=true from K,Ao],rfl⟩,trivial⟩⟩
  .exact⟨k+1,j,by(show a.af.length-(k+1)<a.af.length-k;omega),aI.keep ⟨ae,ae,ae,ae,⟨bj<|by omega,rfl⟩,trivial⟩ ⟨ae,⟨G<|by unfold nI;rw[show(s.set.type==5)=false from J,show(s.set.type==3)=false from K];rfl,rfl⟩,trivial⟩⟩
def Um(w:aQ)(hv:∀p∈w.ah,p.ai.af.length<=100000)(hn:w.ah.length<=100000):NQ.Fn cx 7 [.agg<|bF w] (.d<|.bool<|oq w) []:=by
 refine gr (fun|7=>[66666]|_=>[]) bf mixed Tryz.func7 ?_;conv=>whnf
 refine⟨Nat,λk=>⟨[(1,.ptr 1 0),(9,.d<|.slice 3<|w.ah.map aP),(10,aj ((w.ah.map aP).length:Int)),(11,aj k)],[(1,.box<|(bF w).map .d)]⟩,λk=>k<=w.ah.length/\(w.ah.take k).all (λp=>xF p.ai)=true,λk=>w.ah.length-k,
  ⟨0,⟨Nat.zero_le _,rfl⟩,aI.keep⟩,λk ⟨hk,D⟩=>?_⟩
 dsimp only at hk D ⊢;conv=>whnf
 refine aD ?_ ?_<;>intro h1
 case refine_2 =>
  obtain rfl:k=w.ah.length:=by simp at h1;omega
  rw[List.take_length]at D;refine ak rfl ?_;show AV.d (.bool true)=AV.d (.bool<|oq w)
  unfold oq;rw[D]
 have K:k<w.ah.length:=by simp at h1;omega
 obtain⟨p,hp⟩:∃p,w.ah[k]? =some p:=⟨_,ao K⟩
 have N:=aw hp;have xh:=hv p N;refine⟨aB k,aP p,aL hp,M ?_⟩
 refine⟨Nat,λi=>⟨[(1,.ptr 1 0),(4,.ptr 4 0),(9,.d<|.slice 3<|w.ah.map aP),(10,aj ((w.ah.map aP).length:Int)),(11,aj k),(17,.d<|.slice 5<|p.ai.af.map an),(18,aj ((p.ai.af.map an).length:Int)),(19,aj i)],[(1,.box<|(bF w).map .d),(4,.box<|(aP p).map .d)]⟩,λi=>i<=p.ai.af.length/\(List.range i).all (oO p.ai.af)=true,λi=>p.ai.af.length-i,
  ⟨0,⟨Nat.zero_le _,rfl⟩,aI.keep⟩,λi ⟨hi,H⟩=>?_⟩
 dsimp only at hi H ⊢;conv=>whnf
 refine aD ?_ ?_<;>intro Y
 case refine_2 =>
  obtain rfl:i=p.ai.af.length:=by simp at Y;omega
  exact⟨k+1,⟨K,by rw[cj hp,List.all_append,D];show(xF p.ai&&true)=true;unfold xF;rw[H];rfl⟩,by(show w.ah.length-(k+1)<w.ah.length-k;omega),aI.keep⟩
 have G:i<p.ai.af.length:=by simp at Y;omega
 obtain⟨s,T⟩:∃s,p.ai.af[i]? =some s:=⟨_,ao G⟩
 refine⟨aB i,an s,aL T,M ?_⟩
 have I:oO p.ai.af i=false->oq w=false:=λU=>by
  unfold oq;rw[List.all_eq_false];refine⟨p,N,?_⟩;unfold xF;rw[Bool.not_eq_true,List.all_eq_false];exact⟨i,List.mem_range.2 G,by rw[U];simp⟩
 have ss:oO p.ai.af i=true->(List.range<|i+1).all (oO p.ai.af)=true:=λU=>by
  rw[List.range_succ,List.all_append,H];simp[U]
 refine cn<|M ?_
 refine aD ?_ ?_<;>intro Z
 .have W:i=0:=by simpa using Z
  subst W;refine aD ?_ ?_<;>intro J
  .refine ak rfl ?_;rw[I<|by unfold oO;rw[T];dsimp only;rw[J];rfl];rfl
  .exact⟨0+1,⟨G,ss<|by unfold oO;rw[T];dsimp only;rw[J];rfl⟩,by(show p.ai.af.length-(0+1)<p.ai.af.length-0;omega),aI.keep⟩
 .have W:i≠0:=by simpa using Z
  obtain⟨j,rfl⟩:∃j,i=j+1:=⟨i-1,by omega⟩
  have V:p.ai.af[j]? =some p.ai.af[j]:=ao (by omega);generalize p.ai.af[j]=t at V;have ew:IntKind.i64.wrap (((j+1:Nat):Int)-1)=(j:Int):=by rw[wrap_i64 (by omega)<|by omega];omega
  rw[ew];refine⟨aB j,an t,aL V,M ?_⟩
  have X:oO p.ai.af (j+1)= !((s.set.type==8)&&(t.set.name != s.set.name)):=by
   unfold oO;rw[T];dsimp only;rw[show j+1-1=j from rfl,V,decide_eq_false W,iI]
  refine aD ?_ ?_<;>intro J
  .refine aD ?_ ?_<;>intro h5
   .refine ak rfl ?_;rw[I<|by rw[X,J,show(t.set.name != s.set.name)=true from h5];rfl];rfl
   .exact⟨j+1+1,⟨G,ss<|by rw[X,show(t.set.name != s.set.name)=false from h5,kW];rfl⟩,by(show p.ai.af.length-(j+1+1)<p.ai.af.length-(j+1);omega),aI.keep⟩
  .exact⟨j+1+1,⟨G,ss<|by rw[X,J];rfl⟩,by(show p.ai.af.length-(j+1+1)<p.ai.af.length-(j+1);omega),aI.keep⟩
def IT(a:Ans):Prop:=a.af.length<=100000/\ ∀s∈a.af,s.set.data.length<=100000/\s.sigs.length<=100000
def Lc{a:Ans}(h:IT a):∀s∈cz a.af,s.data.length<=100000:=λs j=>by
 unfold cz at j;obtain⟨t,D,rfl⟩:=List.mem_map.1 j;exact(h.2 t (List.mem_filter.1 D).1).1
def Yr(w:aQ)(x:bG)(since aT:Int)(s:Bs)(a:Ans)(e:Int)(r:Option<|List<|List al)(W:List aQ)
 (D:NQ.Fn cx 4 [] (.d<|.bool true) [])
 (V:NQ.Fn cx 5 [.agg<|bF w,.agg<|bw x,.int .i64 since,.int .i64 aT] (match r with|some l=> .tuple [.d<|.slice 1<|l.map dK,.d<|.slice 7<|W.map bF,.d<|.bool true]|none=> .tuple [.d<|.slice 1 [],.d<|.slice 7 [],.d<|.bool false]) [])
 (hr:∀l,r=some l->(∀p∈w.ah,aW p.ai=true/\p.ai.af.length<=100000)/\w.ah.length<=100000/\x.ai.length<=60/\x.ar.length<=100000 /\
  (qo w=true->oq w=true->(x.kind=1\/x.kind=2)->aR s=true->(∀n∈x.ar,∃(k:Nat) (h:kf),n=k/\w.ar[k]? =some h/\h.name.length<=60) /\
   ((∀n∈x.ar,bd (nameAt w n) x.ai=false)->W.length<=4/\IT a/\(e=0->a.kind≠0)/\NQ.Fn cx 10 [.agg<|bF w,.agg<|eY ⟨s,5⟩] (.tuple [.agg<|(jr a).map .d,aj e]) [] /\
    ∀U∈W,∃b,IT b/\b.kind=a.kind/\cz b.af=cz a.af/\NQ.Fn cx 10 [.agg<|bF U,.agg<|eY ⟨s,5⟩] (.tuple [.agg<|(jr b).map .d,aj e]) []))) :
 NQ.Fn cx 3 [.agg<|bF w,.agg<|bw x,.int .i64 since,.int .i64 aT,.str s] (.d<|.bool true) []:=by
 refine gr (fun|5=>[55555]|8=>[66666]|_=>[]) bf mixed Tryz.func3 ?_;conv=>whnf
 (refine⟨_,_,D,M ?_⟩)
 (refine⟨_,_,V,M ?_⟩)
 cases r with
 |none =>
  conv=>whnf
  exact ak rfl rfl
 |some l =>
 conv=>whnf
 obtain⟨hv,hn,ko,xr,hq⟩:=hr l rfl
 (refine⟨_,_,Ul w (λp hp=>(hv p hp).1) hn,M ?_⟩)
 cases hI:qo w with
 |false =>
  conv=>whnf
  exact ak rfl rfl
 |true =>
 conv=>whnf
 (refine⟨_,_,Um w (λp hp=>(hv p hp).2) hn,M ?_⟩)
 cases hlk:oq w with
 |false =>
  conv=>whnf
  exact ak rfl rfl
 |true =>
 conv=>whnf
 clear hr V D;apply wm (α:=Unit) (P:=λ_=>(x.kind=1\/x.kind=2)/\aR s=true) (canon:=λ_=>⟨[(4,.d<|.str s),(5,.ptr 5 0),(6,.ptr 6 0),(11,.d<|.bool true),(13,.d<|.slice 7<|W.map bF)],[(5,.box<|(bF w).map .d),(6,.box<|(bw x).map .d)]⟩)
 .intro J;by_cases k1:x.kind=1
  .rw[show(x.kind != 1)=false by simp[k1]];conv=>whnf
   (refine⟨_,_,Gm s,M ?_⟩)
   cases I:aR s with
   |false =>
    conv=>whnf
    exact ak rfl rfl
   |true =>
    conv=>whnf
    exact Gq (aI.keep)<|J () ⟨.inl k1,I⟩
  .rw[show(x.kind != 1)=true by simp[k1]];conv=>whnf
   by_cases k2:x.kind=2
   .rw[show(x.kind != 2)=false by simp[k2]];conv=>whnf
    (refine⟨_,_,Gm s,M ?_⟩)
    cases I:aR s with
    |false =>
     conv=>whnf
     exact ak rfl rfl
    |true =>
     conv=>whnf
     exact Gq (aI.keep)<|J () ⟨.inr k2,I⟩
   .rw[show(x.kind != 2)=true by simp[k2]];conv=>whnf
    exact ak rfl rfl
 rintro _ ⟨kX,I⟩;unfold App;conv=>whnf
 obtain⟨kU,hq⟩:=hq hI hlk kX I;refine⟨Nat,λk=>⟨[(4,.d<|.str s),(5,.ptr 5 0),(6,.ptr 6 0),(11,.d<|.bool true),(13,.d<|.slice 7<|W.map bF),(67,.d<|.slice 1<|x.ar.map dq),(68,aj ((x.ar.map dq).length:Int)),(69,aj k)],[(5,.box<|(bF w).map .d),(6,.box<|(bw x).map .d)]⟩,λk=>k<=x.ar.length/\ ∀n∈x.ar.take k,bd (nameAt w n) x.ai=false,λk=>x.ar.length-k,
  ⟨0,⟨Nat.zero_le _,λn h=>by simp at h⟩,aI.keep⟩,?_⟩
 rintro k ⟨hk,K⟩;conv=>whnf
 refine aD ?_ ?_<;>intro h1
 .have H:k<x.ar.length:=by simp at h1;omega
  obtain⟨n,N⟩:∃n,x.ar[k]? =some n:=⟨_,ao H⟩
  obtain⟨j,h,rfl,hj,xb⟩:=kU n<|aw N;have xa:nameAt w (j:Int)=h.name:=by unfold nameAt;rw[Int.toNat_natCast,hj]
  refine⟨aB k,dq (j:Int),aL N,M ?_⟩
  refine cn<|M ?_
  refine⟨aB j,gG h,aL hj,M ?_⟩
  repeat (refine db<|M ?_)
  (refine⟨_,_,aaV h.name x.ai xb ko,M ?_⟩)
  repeat (refine db<|M ?_)
  cases hu:bd h.name x.ai with
  |true =>
   conv=>whnf
   exact ak rfl rfl
  |false =>
   conv=>whnf
   exact⟨k+1,⟨H,λm T=>by
    rw[cj N]at T;rcases List.mem_append.1 T with T|T
    .exact K m T
    .rw[List.mem_singleton.1 T,xa];exact hu⟩,by(show x.ar.length-(k+1)<x.ar.length-k;omega),aI.keep⟩
 obtain rfl:k=x.ar.length:=by simp at h1;omega
 rw[List.take_length]at K;obtain⟨xy,G,kO,fT,hW⟩:=hq K
 (refine⟨_,_,fT,M ?_⟩)
 (refine⟨_,_,Eg a G.1,M ?_⟩)
 refine⟨Nat,λi=>⟨[(11,.d<|.bool true),(17,.ptr 17 0),(18,.ptr 18 0),(19,aj e),(20,aj a.kind),(21,.d<|.slice 4<|(cz a.af).map bV),(97,.d<|.slice 7<|W.map bF),(98,aj ((W.map bF).length:Int)),(99,aj i)],[(17,.box<|(eY ⟨s,5⟩).map .d),(18,.box<|(jr a).map .d)]⟩,λi=>i<=W.length,λi=>W.length-i,
  ⟨0,Nat.zero_le _,aI.keep⟩,?_⟩
 rintro i hi;conv=>whnf
 refine aD ?_ ?_<;>intro h2
 .have H:i<W.length:=by simp at h2;omega
  obtain⟨U,X⟩:∃U,W[i]? =some U:=⟨_,ao H⟩
  obtain⟨b,kP,Z,kK,fB⟩:=hW U<|aw X;have fP:=Eg b kP.1;rw[Z,kK]at fP;have fS:=Ob (cz a.af) (cz a.af) (Nat.le_trans (Ei _) G.1)<|Lc G;rw[decide_eq_true rfl]at fS;refine⟨aB i,bF U,aL X,M ?_⟩
  (refine⟨_,_,fB,M ?_⟩)
  (refine⟨_,_,fP,M ?_⟩)
  rw[show(e != e)=false by simp];conv=>whnf
  rw[show(a.kind != a.kind)=false by simp];conv=>whnf
  (refine⟨_,_,fS,M ?_⟩)
  exact⟨i+1,H,by(show W.length-(i+1)<W.length-i;omega),aI.keep⟩
 .by_cases Y:e=0
  .rw[show(e != 0)=false by simp[Y]];conv=>whnf
   have fE:=RL a pY G.1 G.2;rw[decide_eq_false λh:a=pY=>kO Y<|by rw[h];rfl]at fE
   (refine⟨_,_,fE,M ?_⟩)
   exact ak rfl rfl
  .rw[show(e != 0)=true by simp[Y]];conv=>whnf
   exact ak rfl rfl
def yy:∀(l:List kf) (j:List Int),oh j l=true-> ∀h∈l,aR h.name=true
 |[],_,_,h,G=>by cases G
 |x::t,j,h,y,D=>by
  unfold oh at h;simp only[aK,Bool.not_eq_true',Bool.or_eq_false_iff,Bool.not_eq_false']at h;rcases List.mem_cons.1 D with rfl|D
  .exact h.1.1.1.1.1
  .exact yy t _ h.2 y D
def XC(j:cT w=true):∀h∈w.ar,aR h.name=true:=by
 unfold cT wx at j;simp only[aK]at j;exact yy _ _ j.1.1.2
def Ku(D:cT w=true){n:Int}(h:cr w n=true):∃(k:Nat) (y:kf),n=k/\w.ar[k]? =some y/\aR y.name=true:=by
 unfold cr at h;simp only[aK,decide_eq_true_eq]at h;have j:n.toNat<w.ar.length:=by omega
 exact⟨n.toNat,w.ar[n.toNat],by omega,ao j,XC D _<|List.getElem_mem _⟩
def QK{o:bB}(h:py w x since aT=some o)(G:cT w=true)(hx:gD w x=true)(H:qo w=true)(T:oq w=true)(I:w.ah.length<=20)(N:x.kind=1\/x.kind=2) :
 aR x.ai=true/\(∀n∈x.ar,cr w n=true)/\((∀n∈x.ar,bd (nameAt w n) x.ai=false)-> ∃zs,vB w o.bu zs):=by
 have hv:IY w.ah:=λp hp=>(di G p hp).1
 unfold gD at hx;simp only[aK,Bool.not_eq_true',Bool.or_eq_false_iff,Bool.not_eq_false']at hx;obtain⟨_,V,j⟩:=hx;obtain⟨k0,q0,K,e0⟩:=rP hv V;have J:aR x.ai=true:=by rw[<- (eL K).2];exact(bt<|hv q0<|aw (eL K).1).ag
 have D:∀p∈w.ah,pX p.ai:=λp hp=>by
  unfold oq at T;exact Xq (bt<|hv p hp)<|aG.1 T p hp
 unfold py at h;split at h
 case isFalse=>cases h
 rename_i h2;unfold xI at h;unfold lr at j;rcases N with N|N
 .rw[N,if_pos rfl]at h j;simp only[aK]at j;obtain⟨hl,X,W⟩:=nA j.2;refine⟨J,W,λY=>Ur h G (λp hp q Z e=>KJ H hp Z e) D I V rfl h2 rfl rfl X hl W λn I=>?_⟩;obtain⟨k,y,rfl,hy,hX⟩:=Ku G<|W n I;have U:nameAt w (k:Int)=y.name:=by unfold nameAt;rw[Int.toNat_natCast,hy]
  have:=Y _ I;rw[U]at this;show(bD (nameAt w (k:Int)) x.ai).1=false
  rw[U,Yt hX J];exact this
 .rw[N,if_neg<|by decide,if_pos rfl]at h j;simp only[aK,decide_eq_true_eq]at j;have h0:x.ar=[]:=List.eq_nil_of_length_eq_zero (by omega);exact⟨J,λn I=>(by rw[h0]at I;cases I),λ_=>Ub h G (λp hp q Z e=>KJ H hp Z e) D I V rfl rfl rfl rfl⟩
def LV(w:aQ)(x:bG)(since:Int)(b2:(Lit.int .i64 since).wf=true)(aT:Int)(b3:(Lit.int .i64 aT).wf=true)(s:Bs):NQ.Fn cx 3 [.agg<|bF w,.agg<|bw x,.int .i64 since,.int .i64 aT,.str s] (.d<|.bool true) []:=by
 have D:=Om w x since aT;refine Yr w x since aT s (gC w ⟨s,5⟩).1 (gC w ⟨s,5⟩).2 (lO w x since aT) ((lO w x since aT).elim [] λl=>mP w l l.length) TO ?_ λl hl=>?_
 .cases I:lO w x since aT with
  |none=>rw[I]at D;exact D
  |some l=>rw[I]at D;exact D
 have H:qA w x=true:=by
  have:=hl;unfold lO at this;split at this
  .assumption
  .cases this
 rw[hl];obtain⟨o,rfl,ho,kR,Y,j,ko,_⟩:=Sg hl;obtain⟨hF,xB,W,xC⟩:=xx kR;have hB:=(PI ho j Y W).1;have xr:x.ar.length<=20:=by
  unfold qA at H;simp only[Bool.not_eq_true',Bool.or_eq_false_iff,decide_eq_false_iff_not]at H;have:=H.1.1.2;omega
 have hY:x.ai.length<=60:=by
  unfold gD at Y;simp only[aK,Bool.not_eq_true',Bool.or_eq_false_iff,Bool.not_eq_false']at Y;obtain⟨k0,q0,K,e0⟩:=rP (λp hp=>(di j p hp).1) Y.2.1;rw[<- (eL K).2];exact gE (bt (di j q0<|aw (eL K).1).1).ag
 refine⟨λp hp=>⟨(di j p hp).1,by have:=(bt (di j p hp).1).few;omega⟩,by omega,hY,by omega,λh1 h2 hk I=>?_⟩;obtain⟨xD,G,N⟩:=QK ho j Y h1 h2 W hk;have hq:eO ⟨s,5⟩=true:=by unfold eO;rw[I];rfl
 refine⟨λn hn=>?_,λhJ=>?_⟩
 .obtain⟨k,y,e,hy,hX⟩:=Ku j<|G n hn;exact⟨k,y,e,hy,gE hX⟩
 obtain⟨zs,F⟩:=N hJ;have T:∀{y:aQ},cT y=true->IT (gC y ⟨s,5⟩).1:=λ{y} hy=>by
  unfold gC IT;rw[hy,hq,if_neg<|by simp];have:=yB (λp hp=>(di hy p hp).1) 9 ⟨s,5⟩ [] hq (λs I=>by cases I);exact⟨by have:=this.1;simp only[List.length_nil]at this;omega,this.2⟩
 have f0:=F.all 0<|Nat.zero_le _;have Z:=Hy j j (PG f0.base f0.FZ) hq rfl;have V:(mP w o.bu o.bu.length).length<=4:=by unfold mP;rw[au,List.length_range];have:=hB.num;omega
 refine⟨V,T j,Z.2.2.2,Hw w _ (by omega) (by omega)<|by omega,λwi xm=>?_⟩;obtain⟨k,U,rfl⟩:=List.mem_map.1 (show wi∈(List.range<|o.bu.length+1).map (jN w o.bu)from xm);have U :=List.mem_range.1 U;have J:=F.all k (by omega);have ey:jN w o.bu k=atW w (yv w<|o.bu.take k):=OE w _;have X:=Qg j J.base J.len;obtain⟨s1,s2,s3,_⟩:=Hy j X (PG J.base J.FZ) hq rfl;rw[ey];have fT:=Hw (atW w<|yv w<|o.bu.take k) ⟨s,5⟩ (show w.ar.length<=1000 by omega) (by have:=J.len;show(yv w<|o.bu.take k).length<=100000;omega) (show w.hints.length<=1000 by omega);rw[s1]at fT
 exact⟨_,T X,s2,s3,fT⟩
