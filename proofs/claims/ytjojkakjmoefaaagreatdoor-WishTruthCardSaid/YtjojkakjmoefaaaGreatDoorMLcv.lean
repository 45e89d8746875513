/-
  Merged texts.
-/
import Derived.Test.YtjojkakjmoefaaaGreatDoorMCa
import Derived.Test.YtjojkakjmoefaaaGreatDoorMNh
set_option linter.all false
set_option maxHeartbeats 2000000
set_option maxRecDepth 100000
namespace Go.Proofs.YtjojkakjmoefaaaGreatDoor
open NQ Go.RowKit
def uu(l:List Signed)(n:Bs):Nat:=(l.takeWhile λs=>decide<|bl s.set.name n<=0).length
def wL(l:List Signed)(n:Bs):uu l n<=l.length:=(List.takeWhile_sublist _).length_le
def Lf{n:Bs}:∀{l:List Signed},l.Pairwise (λa b=>bl a.set.name b.set.name<=0)-> ∀{i:Nat} {s:Signed},l[i]? =some s->(uu l n<=i ↔ 0<bl s.set.name n)
 |[],_,i,s,h=>by cases h
 |x::l,hp,i,s,h=>by
  obtain⟨h1,D⟩:=List.pairwise_cons.1 hp;unfold uu;rw[List.takeWhile_cons];by_cases j:bl x.set.name n<=0
  .rw[if_pos<|by simpa using j,List.length_cons];cases i with
   |zero=>cases h;exact⟨λh=>by omega,λh=>by omega⟩
   |succ i =>
    have:=Lf (n:=n) D (i:=i) (s:=s) (by simpa using h);unfold uu at this;omega
  .rw[if_neg<|by simpa using j,List.length_nil];refine⟨λ_=>?_,λ_=>Nat.zero_le _⟩;cases i with
   |zero=>cases h;omega
   |succ i =>
    have I:s∈l:=aw (i:=i) (by simpa using h);have G:=h1 s I;by_cases H:bl s.set.name n<=0
    .exact absurd (bI.le_trans G H) j
    .omega
def nr(c k:Nat):List Nat:=(List.range' k<|c-k).reverse
def Ds{c m:Nat}(h:m+1<=c):(List.range c).reverse=nr c (m+1)++m::(List.range m).reverse:=by
 unfold nr;have:List.range c=List.range m++(m::List.range' (m+1) (c-(m+1))):=by
  rw[List.range_eq_range',List.range_eq_range', <- List.range'_succ,show c-(m+1)+1=c-m by omega];have e:=List.range'_append_1 (s:=0) (m:=m) (n:=c-m);rw[Nat.zero_add,show m+(c-m)=c by omega]at e;exact e.symm
 rw[this,List.reverse_append,List.reverse_cons,List.append_assoc];rfl
def Tt{c m:Nat}(h:m+1<=c):nr c (m+1)++[m]=nr c m:=by
 unfold nr;rw[show c-m=c-(m+1)+1 by omega,List.range'_succ,List.reverse_cons]
def Tu(c:Nat):nr c 0=(List.range c).reverse:=by unfold nr;rw[List.range_eq_range'];simp
def Ww(c:Nat):nr c c=[]:=by unfold nr;simp
def idxOf:Value->Nat| .int _ n=>(n+1).toNat|_=>0
def mV(l:List Signed):Nat->Int
 |0=> -1
 |k+1=>match l[k]? with|some s=>if s.set.type=8 then(k:Int)else mV l k|none=>mV l k
def kn(l:List Signed)(n:Bs):Int:=mV l<|uu l n
def no8(l:List Signed)(j:List Nat):Prop:= ∀i∈j,∀s,l[i]? =some s->s.set.type≠8
def Cj(l:List Signed):∀(c:Nat),no8 l (List.range c).reverse->mV l c= -1
 |0,_=>rfl
 |c+1,h=>by
  have j:no8 l (List.range c).reverse:=λi D=>h i (by rw[List.range_succ];simp at D ⊢;omega)
  have h0:=h c (by rw[List.range_succ];simp);unfold mV;split
  .rename_i s G;rw[if_neg<|h0 s G];exact Cj l c j
  .exact Cj l c j
def OX(l:List Signed){i:Nat}{s:Signed}(J:l[i]? =some s)(K:s.set.type=8):∀(c:Nat) (D G:List Nat),(List.range c).reverse=D++i::G->no8 l D->mV l c=i
 |0,D,G,h,_=>by simp at h
 |c+1,D,G,h,I=>by
  rw[List.range_succ,List.reverse_append]at h;simp only[List.reverse_cons,List.reverse_nil,List.nil_append,List.singleton_append]at h;cases D with
  |nil =>
   simp only[List.nil_append,List.cons.injEq]at h;rw[h.1];unfold mV;rw[J];simp[K]
  |cons p D =>
   simp only[List.cons_append,List.cons.injEq]at h;have H:=I p (List.mem_cons_self ..);have N:=OX l J K c D G h.2 λj T=>I j<|aZ _ T
   unfold mV;rw[<- h.1]at H;split
   .rename_i x U;rw[if_neg<|H x U];exact N
   .exact N
def abS(v:View)(n:Bs)(i:Nat)(s:Signed)(j:v.af[i]? =some s):NQ.Fn cx 223 [.int .i64 i,.ptr [.ptr<|dW v],.ptr [.str n]] (.d<|.bool<|decide<|(dE s.set.name n).1>0) []:=by
 refine bL bf mixed Tryz.func223 ?_
 (refine bJ<|M ?_)
 refine⟨aB i,an s,aL j,M ?_⟩
 (refine⟨_,_,BE s.set.name n,M ?_⟩)
 exact ak rfl rfl
def Ow(v:View)(n:Bs)(I:v.af.length<=100000)(J:fo v.af)(K:∀s∈v.af,aR s.set.name=true)(D:aR n=true) :
 NQ.Fn cx 202 [.int .i64 v.af.length,.fn 223 [] [.ptr [.ptr<|dW v],.ptr [.str n]]] (aj<|uu v.af n) [] :=
 RV v.af.length (uu v.af n) _ _ I (wL _ _) (λi H=>by
  obtain⟨s,j⟩:∃s,v.af[i]? =some s:=⟨_,ao H⟩
  have h:=abS v n i s j;have e:decide ((dE s.set.name n).1>0)=decide (uu v.af n<=i):=by
   have G:(dE s.set.name n).1=bl s.set.name n:=by unfold dE;rw[if_pos ⟨K s<|aw j,D⟩]
   rw[G,decide_eq_decide];exact(Lf (pR J) j).symm
  rwa [e]at h)
variable {w:World}{u:Value}
def sd{w':World}{d:D}(h:Rep w (λ_=>False) d u)(G:Below w.heap.size w w'):Rep w' (λ_=>False) d u :=
 h.mono ⟨G.size,λb _ j=>G.block b j,λ_ h _=>h⟩
variable {rows:List (List D)}
def UR{sz:Nat}(h:Rep w (λ_=>False) (.slice sz rows) u):∃j cap,u= .slice j rows.length cap:=by
 cases h with
 |empty _ a c=>exact⟨a,c,rfl⟩
 |slice _ _ B off n cap us D I H J K h1 G=>exact⟨_,_,by rw[D]⟩
variable {O:Nat->Prop}
def UQ{sz:Nat}(h:Rep w O (.slice sz rows) u){i:Nat}{r:List D}(G:rows[i]? =some r) :
 ∃B off cap,u= .slice (some ⟨B,off,none⟩) rows.length cap/\ ∀(j:Nat) d,r[j]? =some d-> ∃x,w.cell? ⟨B,off+i*sz+j,none⟩=some x/\Rep w O d x:=by
 cases h with
 |empty=>simp at G
 |slice _ _ B off n cap us J N K T U h1 I=>exact⟨B,off,cap,by rw[J],λj d H=>⟨_,h1 i r j d G H,I i r j d G H⟩⟩
def w64{n:Int}(h1: -9223372036854775808<=n)(j:n<=9223372036854775807):wrap64 n=n:=by unfold wrap64;omega
def abT(v:View)(n:ByteArray)(hn:v.af.length<=100000)(hr:fo v.af)(hv:∀s∈v.af,aR s.set.name=true)(hC:aR (S n)=true)(b V o:Nat)(w:World)(hG:jO cx w)
 (h1:Boxed w b 157<|.pointer<|some ⟨V,o,none⟩) (h2:Boxed w (b+1) 9<|.string n) (hp:Rep w (λ_=>False) (.ptr<|dW v)<|.pointer<|some ⟨V,o,none⟩) :
 PX Tryz.prog 222 #[] #[.pointer<|some ⟨b,0,none⟩,.pointer<|some ⟨b+1,0,none⟩] (λi:Nat=> #[.int .i64 i]) (List.range<|uu v.af<|S n).reverse (λA B=>Below A.heap.size A B) w.heap.size w:=by
 intro l J Jx hJ hU hY W hW h0;have k1:=h1.below hW h1.lt;have k2:=h2.below hW h2.lt;have hM:=sd hp hW;have hE:jO cx W:=λg cells hg=>by
  obtain⟨a1,a2,a3⟩:=hG g cells hg;refine⟨Nat.lt_of_lt_of_le a1 hW.size,a2,λj d hj=>?_⟩;obtain⟨u,hu,hr⟩:=a3 j d hj;exact⟨u,(World.cell?_of_block<|hW.block g a1).trans hu,sd hr hW⟩
 have hS:=(Ow v (S n) hn hr hv hC).2 (λ_=>False) W #[.int .i64 v.af.length,.func (.func 223) #[] #[.pointer<|some ⟨b,0,none⟩,.pointer<|some ⟨b+1,0,none⟩]] (λ_ h=>h.elim) hE (λ_ _ _ h=>h) rfl (λj d hj=>by
  rcases j with _|_|j
  .cases hj;exact .int _ _
  .cases hj;refine .fn _ _ _ _ _ rfl rfl (λj d hj=>by simp at hj) (λj d hj=>?_) (λj m hj=>by rcases j with _|_|j<;>first|exact⟨_,rfl⟩|(simp at hj));rcases j with _|_|j
   .cases hj;exact .ptr _ b 0 (λ_=> .pointer<|some ⟨V,o,none⟩) (λh=>h) k1.lt (λd hd=>by simp at hd;subst hd;rfl) (λj d hj=>by
     rcases j with _|j
     .exact k1.cell
     .simp at hj) (λj d hj=>by
     rcases j with _|j
     .cases hj;exact hM
     .simp at hj)
   .cases hj;exact .ptr _ (b+1) 0 (λ_=> .string n) (λh=>h) k2.lt (λd hd=>by simp at hd;subst hd;rfl) (λj d hj=>by
     rcases j with _|j
     .exact k2.cell
     .simp at hj) (λj d hj=>by
     rcases j with _|j
     .cases hj;exact .str _ _ rfl
     .simp at hj)
   .simp at hj
  .simp at hj)
 obtain⟨us,kl,ad,cap,kk⟩:∃us:Value,W.cell? ⟨V,o+1,none⟩=some us/\ ∃ad cap,us= .slice ad v.af.length cap:=by
  cases hM with|ptr _ _ _ us hO hB hA g1 g2 =>
   refine⟨us 1,g1 1 _ rfl,?_⟩;obtain⟨ad,cap,e⟩:=UR<|g2 1 _ rfl;rw[au]at e;exact⟨ad,cap,e⟩
 subst kk;have c1:=k1.cell;refine callsIn_of_wp Tryz.func222 rfl trivial ?_ rfl;simp only[Tryz.ntmps222,List.size_toArray,List.length_cons,List.length_nil,Nat.reduceAdd,Nat.reduceSub,Array.replicate_succ,Array.replicate_zero,List.push_toArray,List.append_toArray,List.nil_append,List.cons_append];have HY:=Lib.hid hY;have HS:=Lib.hid hS;obtain⟨c,hc⟩:∃c,uu v.af (S n)=c:=⟨_,rfl⟩
 have HJ:=Lib.hid hJ;clear hY hS hJ hU hE hG
 gi_wp2_with (refine⟨trivial,?_⟩;gi_at_call 202;refine(callsIn_wide.2 HS.out).mono ?_;rintro e w1 ⟨u,τ,rfl,hV,_,kf⟩;obtain rfl:=kf.int)
 gi_loopw [5] (λx wr=> ∃k:Nat,k<=c/\x= .int .i64 ((k:Int)-1)/\J (nr c k) wr) (λx _=>idxOf x)
 case atStart =>
  have hle:=wL v.af<|S n;refine⟨c,Nat.le_refl _,?_,by rw[Ww];exact HJ.out _ _ _ h0 hV⟩
  congr 1
  exact w64 (by omega) (by omega)
 case round =>
  obtain⟨k,hk,rfl,hF⟩:=hrel;have hle:=wL v.af<|S n;rcases k with _|m
  .clear hle
   gi_wp2
   refine bodyPost_end (results_none rfl _ _ _) rfl ?_;refine⟨⟨_,rfl⟩,.inl ?_⟩;rw[hc, <- Tu];exact hF
  .have e0:(((m+1:Nat):Int)-1)=(m:Int):=by omega
   rw[e0];obtain⟨fn,tmps,assign,body,hy,hR⟩:=HY.out (nr c<|m+1) m _ wr (by rw[hc];exact Ds hk) hF;have HK:=Lib.hid hk;have hD:=Lib.hid hle;clear hle hk
   gi_wp2
   refine hR.mono ?_;rintro e W3 (⟨rfl,hT,_⟩|⟨rfl,ha⟩)
   .gi_wp2
    go_roundw
    case rel =>
     have hk:=HK.out;have hle:=hD.out;refine⟨m,by omega,?_,by rw[<- Tt hk];exact hT⟩
     congr 1
     exact w64 (by omega) (by omega)
    case measure =>
     have hk:=HK.out;have hle:=hD.out;simp only[idxOf];have e:wrap64 ((m:Int)-1)=(m:Int)-1:=w64 (by omega) (by omega);rw[e];omega
   .gi_wp2
    refine bodyPost_ret (results_none rfl _ _ _) rfl ?_;refine⟨⟨_,rfl⟩,.inr ⟨_,⟨(List.range m).reverse,?_⟩,ha⟩⟩;rw[hc,Ds HK.out];simp
def jC(v:View)(n:Bs)(hn:v.af.length<=100000)(hr:fo v.af)(hv:∀s∈v.af,aR s.set.name=true)(hC:aR n=true):NQ.Fn cx 161 [.ptr<|dW v,.str n] (aj<|kn v.af n) []:=by
 refine eH ⟨_,Tryz.func161,by kernel_rfl,rfl⟩ rfl λw vs hG kj H=>?_
 obtain⟨b,hb,rfl⟩:=fh<|H 1 _ rfl;have hp:=H 0 _ rfl;rw[vv kj,hb];generalize vs.getD 0 Go.undef=u at hp;obtain⟨V,o,rfl⟩:∃V o,u= .pointer (some ⟨V,o,none⟩):=by cases hp;exact⟨_,_,rfl⟩
 have key:=Ih (List.range<|uu v.af<|S b).reverse (λi=>match v.af[i]? with|some s=>s.set.type|none=>0) (kn v.af<|S b) V o v.af.length b w
  (λw1 D U X hz=>abT v b hn hr hv hC (w.heap.size+1+1) V o w1 (λg cells hg=>by
   obtain⟨a1,a2,a3⟩:=hG g cells hg;refine⟨Nat.lt_of_lt_of_le a1 D.size,a2,λj d hj=>?_⟩;obtain⟨u,hu,hr⟩:=a3 j d hj;exact⟨u,(World.cell?_of_block<|D.block g a1).trans hu,sd hr D⟩) U X<|sd hp D)
  (λW D x hx=>by
   have G:x<v.af.length:=by
    simp at hx;have:=wL v.af<|S b;omega
   have Z:=sd hp D;obtain⟨s,I⟩:∃s,v.af[x]? =some s:=⟨_,ao G⟩
   rw[I];cases Z with|ptr _ _ _ us hO hB hA g1 g2 =>
    have K:(v.af.map an)[x]? =some (an s):=by rw[bc,I];rfl
    obtain⟨B,off,cap,e1,e2⟩:=UQ (g2 1 _ rfl) K;obtain⟨y,hy,ry⟩:=e2 1 _ rfl;rw[wN ry]at hy;rw[au]at e1;exact⟨B,off,cap,by rw[<- e1];exact g1 1 _ rfl,G,hy⟩)
  (λh=>Cj _ _ λi Y s I=>by have:=h i Y;rw[I]at this;exact this)
  (λpre x N hx T J=>by
   cases I:v.af[x]? with
   |none=>rw[I]at T;cases T
   |some s =>
    rw[I]at T;exact OX _ I T _ pre N hx λi Y s' kh =>by have:=J i Y;rw[kh]at this;exact this)
 refine key.mono ?_;rintro e w' ⟨rfl,D⟩;exact⟨_,rfl,D,.mkInt _ _⟩
def pG(ag:Bs)(l:List Signed):Nat->Bs->Bs
 |0,n=>n
 |f+1,n=>if n=ag then n else if exB l n=true then n else pG ag l f<|fg n
def nj(ag:Bs)(l:List Signed)(n:Bs):Bs:=pG ag l ((cu n).length+1) n
def pb(n:Bs):Bs:=(jw<|[42]::cu n).1
def Lv(n:Bs)(h:(jw<|[42]::cu n).2≠0):pb n=[]:=by
 unfold pb;unfold jw at h ⊢;split at h
 .exact absurd rfl h
 .rw[if_neg<|by assumption]
variable {v:Value}
def Yl{H:List Bs}(h:Strs w v H)(T:∀B off n c,v= .slice (some ⟨B,off,none⟩) n c-> ¬O B):Rep w O (.slice 1<|H.map cK) v:=by
 rcases h with ⟨a,c,rfl,rfl⟩|⟨B,off,cap,rfl,U,N,G⟩
 .exact .empty _ _ _
 .refine .slice 1 (H.map cK) B off H.length cap (λi _=>match H[i]? with|some x=> .string<|mk x|none=>undef) (by simp) (T B off _ _ rfl) N U (λr V=>?_) (λi r j d D J=>?_) λi r j d D J=>?_
  .obtain⟨x,_,rfl⟩:=List.mem_map.1 V;exact⟨rfl,λd K=>by simp[cK]at K;subst K;rfl⟩
  .rw[bc]at D;cases I:H[i]? with
   |none=>rw[I]at D;cases D
   |some x =>
    rw[I]at D;cases D;rcases j with _|j
    .have:=G i x I;rw[Nat.mul_one,Nat.add_zero];exact this
    .simp[cK]at J
  .rw[bc]at D;cases I:H[i]? with
   |none=>rw[I]at D;cases D
   |some x =>
    rw[I]at D;cases D;rcases j with _|j
    .cases J;exact .str _ _<|S_mk x
    .simp[cK]at J
def LC(h:Strs w v []):Rep w O (.slice 1 []) v:=by
 rcases h with ⟨a,c,rfl,_⟩|⟨B,off,cap,rfl,_⟩
 .exact .empty _ _ _
 .exact .empty _ _ _
def XT{G:List Bs}:∀{d:D},Rep w O d v->d= .slice 1 (G.map cK)->Strs w v G:=by
 intro d h e;cases h with
 |empty sz a cap =>
  cases G with
  |nil=>exact .inl ⟨a,cap,rfl,rfl⟩
  |cons=>simp at e
 |slice sz rows B off n cap us J W N U X h1 K =>
  cases e;rw[au]at J;subst J;refine .inr ⟨B,off,cap,rfl,U,N,λj x V=>?_⟩;have I:(G.map cK)[j]? =some (cK x):=by rw[bc,V];rfl
  have c:=h1 j (cK x) 0 (.str x) I rfl;have r:=K j (cK x) 0 (.str x) I rfl;obtain⟨b,T,H⟩:=fh r;rw[Nat.mul_one,Nat.add_zero,T]at c;rw[c]
  congr 2
  apply Ar;rw[S_mk];exact H
 |_=>cases e
def Gk(s:Bs):NQ.Fn cx 143 [.str s] (.tuple [.d<|.slice 1<|(gu s).1.map cK,.d<|.int .i64 (gu s).2]) []:=by
 refine⟨⟨_,Tryz.func143,by kernel_rfl,rfl⟩,λO w vs X hG W N J=>?_⟩;obtain⟨b,H,rfl⟩:=fh<|J 0 _ rfl;rw[vu N,H];refine(IU b w).mono ?_;rintro e w' ⟨v,rfl,G,I,j⟩;refine⟨_,λ_=> .nilFunc,rfl,I,⟨λs b G=>by simp[find]at G,λs s' b G=>by simp[live,find]at G⟩,?_⟩;have D :Rep w' O (.slice 1<|(gu<|S b).1.map cK) v:=by
  by_cases T:aR (S b)=true
  .refine Yl G λB off n c e K=>?_
   obtain⟨Z,U,V,Y⟩:=j T;rw[V]at e;cases e;have:=X B K;omega
  .have e:gu (S b)=([],11):=by unfold gu;rw[if_neg T]
   rw[e]at G ⊢;exact LC G
 refine LH (.d _ _<|D.mono (bx.less λb H=>?_))<|.mkInt _ _;rcases H with H|⟨s,hl,_⟩
 .exact H
 .simp[live,find]at hl
def Zl(l:List Bs):NQ.Fn cx 206 [.slice 1<|l.map cK] (.tuple [.d<|.str (jw l).1,.d<|.int .i64 (jw l).2]) []:=by
 refine eH ⟨_,Tryz.func206,by kernel_rfl,rfl⟩ rfl λw vs H G D=>?_
 rw[vu G];refine(PU _ l w<|XT (D 0 _ rfl) rfl).mono ?_;rintro e w' ⟨rfl,j⟩;refine⟨_,rfl,j,LH ?_<|.mkInt _ _⟩;exact .d _ _<|.str _ _<|S_mk _
def Dw(v:View)(W:v.af.length<=100000)(Y:fo v.af)(hv:∀s∈v.af,aR s.set.name=true)(X:aR v.q.name=true)(Z:bd v.q.name v.ag=true) :
 NQ.Fn cx 162 [.ptr<|dW v] (.d<|.str<|pb<|nj v.ag v.af v.q.name) []:=by
 refine bL bf mixed Tryz.func162 ?_;refine⟨Bs,λn=>⟨[(0,.d<|.ptr<|dW v),(3,.d<|.str n)],[]⟩,λn=>aR n=true/\bd n v.ag=true/\pG v.ag v.af ((cu n).length+1) n=nj v.ag v.af v.q.name,λn=>(cu n).length,
  ⟨v.q.name,⟨X,Z,rfl⟩,aI.keep⟩,λn ⟨D,N,j⟩=>M ?_⟩
 have fin:nj v.ag v.af v.q.name=n->True:=λ_=>trivial
 have T:gu n=(cu n,0):=by unfold gu;rw[if_pos D]
 have J:=Gk n;rw[T]at J;have U:=Zl<|[42]::cu n;have V:=ZX D;have tail:nj v.ag v.af v.q.name=n-> ∀e,(jw<|[42]::cu n).2=e->(e != 0)=false->pb (nj v.ag v.af v.q.name)=(jw<|[42]::cu n).1:=λh e _ _=>by rw[h];rfl
 (refine aD ?_ ?_<;>intro h)
 .have G:n≠v.ag:=by simpa using h
  obtain⟨k1,k2,k3⟩:=yo D N G;rw[pG,if_neg G]at j
  (refine⟨_,_,zh v n W Y hv D,M ?_⟩)
  refine aD ?_ ?_<;>intro H
  .have H:exB v.af n=false:=by simpa using H
   rw[if_neg<|by simp[H], <- k3]at j;have hp:iR n=(fg n,0):=by unfold iR;rw[if_pos D,if_neg k1]
   have I:=Gl n;rw[hp]at I
   (refine⟨_,_,I,M ?_⟩)
   exact⟨fg n,⟨nH D,k2,j⟩,by(show(cu<|fg n).length<(cu n).length;omega),aI.keep⟩
  .have H:exB v.af n=true:=by simpa using H
   rw[if_pos H]at j
   (refine⟨_,_,J,M ?_⟩)
   refine⟨by(show 1+((cu n).map cK).length<=_;rw[au];omega),by(show(1+((cu n).map cK).length)*16<=_;rw[au];omega),M ?_⟩
   refine⟨_,U,rfl,M ?_⟩
   refine aD ?_ ?_<;>intro K
   .refine ak rfl ?_;rw[<- j,Lv n<|by simpa using K];rfl
   .refine ak rfl ?_;rw[<- j];rfl
 .have G:n=v.ag:=by simpa using h
  rw[pG,if_pos G]at j
  (refine⟨_,_,J,M ?_⟩)
  refine⟨by(show 1+((cu n).map cK).length<=_;rw[au];omega),by(show(1+((cu n).map cK).length)*16<=_;rw[au];omega),M ?_⟩
  refine⟨_,U,rfl,M ?_⟩
  refine aD ?_ ?_<;>intro K
  .refine ak rfl ?_;rw[<- j,Lv n<|by simpa using K];rfl
  .refine ak rfl ?_;rw[<- j];rfl
def Rp(z:ax)(q:bO)(V:z.af.length<=100000)(K:RP z.af):NQ.Fn cx 100 [.agg<|aV z,.agg<|eY q] (.ptr 18 0) [(18,.box<|(dW ⟨z.ag,z.af,q,[],false,[]⟩).map .d)]:=by
 refine gr (fun|7=>[15]|_=>[]) bf mixed Tryz.func100 ?_;conv=>whnf
 (refine bJ<|M ?_)
 refine ⟨Nat, fun k => ⟨[(5, .ptr 18 0), (20, .d<|.slice 5<|z.af.map an), (21, aj ((z.af.map an).length : Int)), (22, aj k)],
     [(18,.box [.d<|.str z.ag,.d<|.slice 5<|z.af.map an,.omap 15,.d<|.str q.name,aj q.type,.d<|.str [],.d<|.bool false,.d<|.str []]),(15,.cS<|mC 0<|z.af.take k)]⟩,
  λk=>k<=z.af.length,λk=>z.af.length-k,⟨0,by omega,aI.keep⟩,λk U=>M ?_⟩
 refine aD ?_ ?_<;>intro h1
 .have D:k<z.af.length:=by simp at h1;omega
  obtain⟨s,I⟩:∃s,z.af[k]? =some s:=⟨_,ao D⟩
  refine⟨aB k,an s,aL I,M ?_⟩
  (refine bJ<|M ?_)
  have H:(z.af.take k).findIdx? (is<|qOf s)=none:=by
   rw[List.findIdx?_eq_none_iff];intro x N;rw[<- Bool.not_eq_true,wA];have J:z.af=z.af.take k++s::z.af.drop (k+1):=by
    conv=>lhs;rw[<- List.take_append_drop k z.af,drop_cons I]
   have G :=K;rw[J]at G;exact lS<|(List.pairwise_append.1 G).2.2 x N s (List.mem_cons_self ..)
  have j :=FF (qOf s) (z.af.take k) 0;rw[H]at j;refine⟨_,DH j,M ?_⟩
  refine⟨k+1,D,by(show z.af.length-(k+1)<z.af.length-k;omega),aI.keep ⟨ae,ae,ae,⟨bj<|by omega,rfl⟩,trivial⟩ ⟨ae,⟨?_,rfl⟩,trivial⟩⟩;show some (Blk.cS<|mC 0 (z.af.take k)++[(eY<|qOf s,.int .i64 k)])=some (Blk.cS<|mC 0<|z.af.take<|k+1)
  rw[cj I];have app:∀(l:List Signed) (i:Nat) (x:Signed),mC i (l++[x])=mC i l++[(eY<|qOf x,.int .i64 ((i+l.length:Nat):Int))]:=λl=>by
   induction l with
   |nil=>intro i x;rfl
   |cons a t T=>intro i x;rw[List.cons_append,mC,T,mC,List.cons_append,List.length_cons,show i+1+t.length=i+(t.length+1) by omega]
  rw[app,Nat.zero_add,List.length_take,Nat.min_eq_left<|by omega]
 .obtain rfl:k=z.af.length:=by simp at h1;omega
  refine XW rfl rfl ⟨⟨?_,rfl⟩,trivial⟩;show some (Blk.box [.d<|.str z.ag,.d<|.slice 5<|z.af.map an,.d<|.cS<|mC 0<|z.af.take z.af.length,.d<|.str q.name,aj q.type,.d<|.str [],.d<|.bool false,.d<|.str []])=_
  rw[List.take_length];rfl
def fD(l:List Signed)(q:bO):atI l q<l.length:=by
 unfold atI;split
 .rename_i k j;have:=(List.findIdx?_eq_some_iff_getElem.1 j).1;omega
 .omega
def Ci(l:List Signed):∀k:Nat,k<=l.length->mV l k<l.length
 |0,_=>by simp only[mV];omega
 |k+1,h=>by
  simp only[mV];split
  .split
   .omega
   .exact Ci l k (by omega)
  .exact Ci l k (by omega)
def iO(l:List Signed)(n:Bs):kn l n<l.length:=Ci l _<|wL l n
structure mz(v:View):Prop where
 len:v.af.length<=100000
 ris:fo v.af
 val:∀s∈v.af,aR s.set.name=true
 sml:∀s∈v.af,Small s
 qv:aR v.q.name=true
 qu:bd v.q.name v.ag=true
 wv:v.eG=[]\/aR v.eG=true
def Dq(v:View):Ans:=⟨1,dw v.af [] [atI v.af v.q],[]⟩
def xq(v:View):Bool:=decide<|atI v.af v.q>=0
def Ji(v:View):Ans:=⟨3,dw v.af [] [atI v.af ⟨v.q.name,3⟩],[]⟩
def rI(v:View):Bool:=decide (atI v.af ⟨v.q.name,3⟩>=0)&&v.q.type != 8
def jX(v:View):Int:=atI v.af ⟨v.ag,4⟩
def ot(v:View):Ans:=if exB v.af v.q.name=true then⟨5,dw v.af [] [jX v,kn v.af v.q.name],[]⟩else⟨0,[],[]⟩
def bQ(v:View):View:=if exB v.af v.q.name=true then v else{v with eG:=pb<|nj v.ag v.af v.q.name}
def Bb(v:View):Ans:=⟨2,dw v.af [] [atI v.af ⟨v.eG,v.q.type⟩,kn v.af v.q.name],[]⟩
def vx(v:View):Bool:=decide<|atI v.af ⟨v.eG,v.q.type⟩>=0
def oC(v:View):Ans:=⟨3,dw v.af [] [atI v.af ⟨v.eG,3⟩,kn v.af v.q.name],[]⟩
def iC(v:View):Bool:=decide (atI v.af ⟨v.eG,3⟩>=0)&&v.q.type != 8
def oE(v:View):Bool:= !(v.eG==[])&&exB v.af v.eG
def oD(v:View):Ans:=if oE v=true then⟨5,dw v.af [] [jX v,kn v.af v.q.name,kn v.af v.eG],[]⟩else⟨0,[],[]⟩
def qR(v:View):Ans:=⟨6,dw v.af [] [jX v,kn v.af v.q.name,if v.eG=[]then -1 else kn v.af v.eG],[]⟩
noncomputable def cxA (l:List Nat):Cx:={cx with chg:=λg=>match Nat.beq g 158 with|true=>4|false=>cx.chg g,bld:=l}
def tyA(l:List Nat):bC<|cxA l:=bf
def rW(l:List Nat):(cxA l).P.follows .mixedOrders=true:=mixed
def Wv(v:View)(ok:mz v):FnB cx 102 (dW v) [] (.tuple [.agg<|(jr<|Dq v).map .d,.d<|.bool<|xq v])<|dW v:=by
 show FnB (cxA [19]) _ _ _ _ _
 refine iw (λ_=>[]) (tyA _) (rW _) Tryz.func102 ?_;conv=>whnf
 (refine bJ<|M ?_)
 (refine⟨_,mi v v.q.name v.q.type,rfl,M ?_⟩)
 refine⟨_,kB v 1 [atI v.af v.q] (by simp) (by simp[fD]) ok.sml,M ?_⟩
 exact⟨[],_,_,rfl,rfl,rfl,rfl⟩
def Rt(v:View)(ok:mz v):FnB cx 104 (dW v) [] (.tuple [.agg<|(jr<|ot v).map .d,.d<|.bool<|exB v.af v.q.name])<|dW<|bQ v:=by
 show FnB (cxA [21]) _ _ _ _ _
 refine iw (λ_=>[]) (tyA _) (rW _) Tryz.func104 ?_;conv=>whnf
 (refine⟨_,zh v v.q.name ok.len ok.ris ok.val ok.qv,rfl,M ?_⟩)
 unfold ot bQ
 (refine aD ?_ ?_<;>intro h)
 . (refine bJ<|M ?_)
   (refine⟨_,yj v,rfl,M ?_⟩)
   (refine⟨_,jC v v.q.name ok.len ok.ris ok.val ok.qv,rfl,M ?_⟩)
   refine⟨_,kB v 5 [jX v,kn v.af v.q.name] (by simp) (by simp[jX,fD,iO]) ok.sml,M ?_⟩
   exact⟨[],_,_,rfl,rfl,rfl,rfl⟩
 . (refine⟨_,Dw v ok.len ok.ris ok.val ok.qv ok.qu,rfl,M ?_⟩)
   exact⟨[],_,_,rfl,rfl,rfl,rfl⟩
def YD(v:View)(ok:mz v):FnB cx 105 (dW v) [] (.tuple [.agg<|(jr<|Bb v).map .d,.d<|.bool<|vx v])<|dW v:=by
 show FnB (cxA [25]) _ _ _ _ _
 refine iw (λ_=>[]) (tyA _) (rW _) Tryz.func105 ?_;conv=>whnf
 (refine bJ<|M ?_)
 (refine⟨_,mi v v.eG v.q.type,rfl,M ?_⟩)
 (refine⟨_,jC v v.q.name ok.len ok.ris ok.val ok.qv,rfl,M ?_⟩)
 refine⟨_,kB v 2 [atI v.af ⟨v.eG,v.q.type⟩,kn v.af v.q.name] (by simp) (by simp[fD,iO]) ok.sml,M ?_⟩
 exact⟨[],_,_,rfl,rfl,rfl,rfl⟩
def Gi(v:View)(ok:mz v):FnB cx 107 (dW v) [] (.tuple [.agg<|(jr<|oD v).map .d,.d<|.bool<|oE v])<|dW v:=by
 show FnB (cxA [35]) _ _ _ _ _
 refine iw (λ_=>[]) (tyA _) (rW _) Tryz.func107 ?_;conv=>whnf
 unfold oD oE
 (refine aD ?_ ?_<;>intro h)
 .exact⟨[],_,_,rfl,rfl,rfl,rfl⟩
 have j:aR v.eG=true:=ok.wv.resolve_left (by simpa using h)
 (refine⟨_,zh v v.eG ok.len ok.ris ok.val j,rfl,M ?_⟩)
 (refine aD ?_ ?_<;>intro h)
 .have h:exB v.af v.eG=false:=by simpa using h
  rw[h];exact⟨[],_,_,rfl,rfl,rfl,rfl⟩
 have h:exB v.af v.eG=true:=by simpa using h
 rw[h]
 (refine bJ<|M ?_)
 (refine⟨_,yj v,rfl,M ?_⟩)
 (refine⟨_,jC v v.q.name ok.len ok.ris ok.val ok.qv,rfl,M ?_⟩)
 (refine⟨_,jC v v.eG ok.len ok.ris ok.val j,rfl,M ?_⟩)
 refine⟨_,kB v 5 [jX v,kn v.af v.q.name,kn v.af v.eG] (by simp) (by simp[jX,fD,iO]) ok.sml,M ?_⟩
 exact⟨[],_,_,rfl,rfl,rfl,rfl⟩
def Rv(v:View)(ok:mz v):FnB cx 108 (dW v) [] (.agg<|(jr<|qR v).map .d)<|dW v:=by
 show FnB (cxA [26]) _ _ _ _ _
 refine iw (λ_=>[]) (tyA _) (rW _) Tryz.func108 ?_;conv=>whnf
 have H:=iO v.af v.eG;have G:∀p∈[jX v,kn v.af v.q.name,(if v.eG=[]then -1 else kn v.af v.eG)],p<v.af.length:=by
  simp[jX,fD,iO];split<;>omega
 have key:=kB v 6 _ (by simp) G ok.sml;unfold qR
 (refine aD ?_ ?_<;>intro h)
 .have j:v.eG≠[]:=by simpa using h
  have D:aR v.eG=true:=ok.wv.resolve_left j;rw[if_neg j]at key ⊢
  (refine⟨_,jC v v.eG ok.len ok.ris ok.val D,rfl,M ?_⟩)
  (refine bJ<|M ?_)
  (refine⟨_,yj v,rfl,M ?_⟩)
  (refine⟨_,jC v v.q.name ok.len ok.ris ok.val ok.qv,rfl,M ?_⟩)
  refine⟨_,key,M ?_⟩
  exact⟨[],_,_,rfl,rfl,rfl,rfl⟩
 .have j:v.eG=[]:=by simpa using h
  rw[if_pos j]at key ⊢
  (refine bJ<|M ?_)
  (refine⟨_,yj v,rfl,M ?_⟩)
  (refine⟨_,jC v v.q.name ok.len ok.ris ok.val ok.qv,rfl,M ?_⟩)
  refine⟨_,key,M ?_⟩
  exact⟨[],_,_,rfl,rfl,rfl,rfl⟩
def SK(v:View)(ok:mz v):FnB cx 103 (dW v) [] (.tuple [.agg<|(jr<|Ji v).map .d,.d<|.bool<|rI v])<|dW v:=by
 show FnB (cxA [14]) _ _ _ _ _
 refine iw (fun|2=>[66666]|_=>[]) (tyA _) (rW _) Tryz.func103 ?_;conv=>whnf
 (refine⟨_,mi v v.q.name 3,rfl,M ?_⟩)
 (refine cn<|M ?_)
 (repeat (refine⟨by kernel_rfl,?_⟩));conv=>whnf
 refine⟨_,kB v 3 [atI v.af ⟨v.q.name,3⟩] (by simp) (by simp[fD]) ok.sml,M ?_⟩
 (repeat (refine⟨by kernel_rfl,?_⟩));conv=>whnf
 unfold rI
 (refine aD ?_ ?_<;>intro h)
 . (repeat (refine⟨by kernel_rfl,?_⟩));conv=>whnf
   rw[gq];exact⟨[],_,_,rfl,rfl,rfl,rfl⟩
 . (repeat (refine⟨by kernel_rfl,?_⟩));conv=>whnf
   rw[pW];exact⟨[],_,_,rfl,rfl,rfl,rfl⟩
def Iz(v:View)(ok:mz v):FnB cx 106 (dW v) [] (.tuple [.agg<|(jr<|oC v).map .d,.d<|.bool<|iC v])<|dW v:=by
 show FnB (cxA [20]) _ _ _ _ _
 refine iw (fun|2=>[66666]|_=>[]) (tyA _) (rW _) Tryz.func106 ?_;conv=>whnf
 (refine⟨_,mi v v.eG 3,rfl,M ?_⟩)
 (refine cn<|M ?_)
 (refine⟨_,jC v v.q.name ok.len ok.ris ok.val ok.qv,rfl,M ?_⟩)
 (repeat (refine⟨by kernel_rfl,?_⟩));conv=>whnf
 refine⟨_,kB v 3 [atI v.af ⟨v.eG,3⟩,kn v.af v.q.name] (by simp) (by simp[fD,iO]) ok.sml,M ?_⟩
 (repeat (refine⟨by kernel_rfl,?_⟩));conv=>whnf
 unfold iC
 (refine aD ?_ ?_<;>intro h)
 . (repeat (refine⟨by kernel_rfl,?_⟩));conv=>whnf
   rw[gq];exact⟨[],_,_,rfl,rfl,rfl,rfl⟩
 . (repeat (refine⟨by kernel_rfl,?_⟩));conv=>whnf
   rw[pW];exact⟨[],_,_,rfl,rfl,rfl,rfl⟩
def CZ(v:View):Bool:=v.q.type==6||v.q.type==8
def fF(v:View):Bool:= !(!v.behind||(v.q.name==v.cut&&CZ v))
def nJ(v:View):Int:=if decide (atI v.af ⟨v.cut,6⟩<0)=true then atI v.af ⟨v.cut,8⟩else atI v.af ⟨v.cut,6⟩
def ix(v:View)(l:List Datum):List Int:=l.flatMap λd=>if (bD d.text v.cut).1=true then[atI v.af ⟨d.text,1⟩]else[]
def ib(v:View):Int:=atI v.af ⟨v.cut,2⟩
def oZ(v:View):List Datum:=match v.af[(ib v).toNat]? with|some s=>s.set.data|none=>[]
def il(v:View):List Int:=[ib v,nJ v]++ix v (oZ v)
def nL(v:View):Ans:=if fF v=true then⟨4,dw v.af []<|il v,v.cut⟩else⟨0,[],[]⟩
def uT(v:View):∀l:List Datum,(ix v l).length<=l.length
 |[]=>by simp[ix]
 |d::l=>by
  have:=uT v l;unfold ix at this ⊢;rw[List.flatMap_cons,List.length_append,List.length_cons];split
  .simp only[List.length_cons,List.length_nil];omega
  .simp only[List.length_nil];omega
def QU(v:View)(l:List Datum)(d:Datum):ix v (l++[d])=ix v l++(if (bD d.text v.cut).1=true then[atI v.af ⟨d.text,1⟩]else[]):=by
 unfold ix;rw[List.flatMap_append];simp
def UD(v:View)(ok:mz v)(hd:∀s∈v.af,s.set.data.length<=900)(K:v.behind=true->0<=ib v):FnB cx 101 (dW v) [] (.tuple [.agg<|(jr<|nL v).map .d,.d<|.bool<|fF v])<|dW v:=by
 show FnB (cxA []) _ _ _ _ _
 refine iw (fun|15=>[68]|_=>[]) (tyA _) (rW _) Tryz.func101 ?_;conv=>whnf
 have no:fF v=false->((.tuple [.agg<|(jr<|nL v).map .d,.d<|.bool<|fF v]):AV)= .tuple [.agg<|(jr ⟨0,[],[]⟩).map .d,.d<|.bool false]:=λh=>by
  unfold nL;rw[h,if_neg<|by simp]
 have hb:∀b,(!b)=false->b=true:=by intro b;cases b<;>simp
 have W:∀p:Int,nJ v=p->v.behind=true->fF v=true-> ∃s,v.af[(ib v).toNat]? =some s/\oZ v=s.set.data/\0<=ib v/\s.set.data.length<=900:=λp hp J hr=>by
  have h0:=K J;have j:ib v<v.af.length:=fD _ _;obtain⟨s,U⟩:∃s,v.af[(ib v).toNat]? =some s:=⟨_,ao<|by omega⟩
  exact⟨s,U,by unfold oZ;rw[U],h0,hd s<|aw U⟩
 repeat' (first
  |(refine aD ?_ ?_<;>intro h)
  |(refine bJ<|M ?_)
  |(rw[no<|by unfold fF CZ;simp[*]];exact⟨[],_,_,rfl,rfl,rfl,rfl⟩)
  |fail)
 all_goals
  have J:v.behind=true:=hb _ (by assumption);have Y:fF v=true:=by unfold fF CZ;simp[*]
  (refine⟨_,mi v v.cut 2,rfl,M ?_⟩)
  (refine⟨_,mi v v.cut 6,rfl,M ?_⟩)
  refine aD ?_ ?_<;>intro j
 all_goals try (refine⟨_,mi v v.cut 8,rfl,M ?_⟩)
 all_goals
  obtain⟨p,hp⟩:∃p,nJ v=p:=⟨_,rfl⟩
  obtain⟨s,U,V,h0,Z⟩:=W p hp J Y;refine⟨h0,an s,by(rw[bc];show Option.map an v.af[(ib v).toNat]? =_;rw[U];rfl),M ?_⟩
  have H :=hp;unfold nJ at H;rw[j]at H;simp only[if_true,if_false,eV]at H
  refine ⟨Nat, fun k => ⟨[(0, .ptr 100000 0), (2, .ptr 2 0), (7, .own 68), (77, .d<|.slice 3<|s.set.data.map aS), (78, aj ((s.set.data.map aS).length : Int)), (79, aj k)],
      [(100000,.box<|(dW v).map .d),(2,.box [aj 0,.nil 5,.d<|.str []]),(68,.row 3 1<|([ib v,p]++ix v (s.set.data.take k)).map eN)]⟩,
   λk=>k<=s.set.data.length,λk=>s.set.data.length-k,⟨0,by omega,aI.keep ⟨ae,ae,ae,ae,ae,ae,trivial⟩ ⟨ae,ae,⟨by(rw[<- H];rfl),rfl⟩,trivial⟩⟩,λk hk=>M ?_⟩
  refine aD ?_ ?_<;>intro h1
  .have j:k<s.set.data.length:=by simp at h1;omega
   obtain⟨d,N⟩:∃d,s.set.data[k]? =some d:=⟨_,ao j⟩
   have G:=QU v (s.set.data.take k) d;rw[<- cj N]at G;refine⟨aB k,aS d,aL N,M ?_⟩
   (refine bJ<|M ?_)
   (refine⟨_,_,GV d.text v.cut,M ?_⟩)
   refine aD ?_ ?_<;>intro hu
   .rw[if_pos hu]at G;have D:=uT v<|s.set.data.take k;rw[List.length_take]at D
    (refine⟨_,mi v d.text 1,rfl,M ?_⟩)
    refine⟨by(show(([ib v,p]++ix v (s.set.data.take k)).map eN).length+1<=_;simp;omega),by(show((([ib v,p]++ix v (s.set.data.take k)).map eN).length+1)*8<=_;simp;omega),M ?_⟩
    refine⟨k+1,j,by(show s.set.data.length-(k+1)<s.set.data.length-k;omega),aI.keep ⟨ae,ae,ae,ae,ae,⟨bj<|by omega,rfl⟩,trivial⟩ ⟨ae,ae,⟨?_,rfl⟩,trivial⟩⟩;have e:([ib v,p]++ix v (s.set.data.take<|k+1)).map eN=([ib v,p]++ix v (s.set.data.take k)).map eN++[eN<|atI v.af ⟨d.text,1⟩]:=by
     rw[G, <- List.append_assoc,List.map_append];rfl
    rw[e];show some (Blk.row _ _<|_++_)=_
    rfl
   .rw[if_neg<|by simp[hu],List.append_nil]at G;refine⟨k+1,j,by(show s.set.data.length-(k+1)<s.set.data.length-k;omega),aI.keep ⟨ae,ae,ae,ae,ae,⟨bj<|by omega,rfl⟩,trivial⟩ ⟨ae,ae,⟨?_,rfl⟩,trivial⟩⟩;rw[G];rfl
  .obtain rfl:k=s.set.data.length:=by simp at h1;omega
   have hP:[ib v,p]++ix v (s.set.data.take s.set.data.length)=il v:=by
    unfold il;rw[V,hp,List.take_length]
   rw[hP];have D:(il v).length<=1000:=by
    have:=uT v s.set.data;unfold il;rw[V];simp;omega
   have T:∀q∈il v,q<v.af.length:=by
    intro q I;unfold il at I;rcases List.mem_append.1 I with I|I
    .simp at I;rcases I with rfl|rfl
     .exact fD _ _
     .unfold nJ;split<;>exact fD _ _
    .unfold ix at I;obtain⟨x,_,X⟩:=List.mem_flatMap.1 I;split at X
     .simp at X;rw[X];exact fD _ _
     .cases X
   refine⟨_,kB v 4 (il v) D T ok.sml,M ?_⟩
   have eA:nL v=⟨4,dw v.af []<|il v,v.cut⟩:=by unfold nL;rw[if_pos Y]
   rw[eA,Y];exact⟨[],_,_,rfl,rfl,rfl,rfl⟩
def hZ(v:View):Ans :=
 if fF v=true then nL v else if xq v=true then Dq v else if rI v=true then Ji v else if exB v.af v.q.name=true then ot v
 else if vx (bQ v)=true then Bb (bQ v)else if iC (bQ v)=true then oC (bQ v)else if oE (bQ v)=true then oD (bQ v)else qR<|bQ v
def pY:Ans:=⟨0,[],[]⟩
def uB(z:ax)(q:bO)(c:Bs)(b:Bool):View:=⟨z.ag,z.af,q,c,b,[]⟩
def dL(z:ax)(q:bO):Ans×Int :=
 if (decide (q.type<1)||decide (q.type>8))=true then(pY,1)else if ((gO z q.name).2.2==20)=true then(⟨7,[],[]⟩,0)
 else if ((gO z q.name).2.2 != 0)=true then(pY,(gO z q.name).2.2)else(hZ<|uB z q (gO z q.name).1 (gO z q.name).2.1,0)
variable {z:ax}
def Wm{n:Bs}(h1:((gO z n).2.2==20)=false)(D:((gO z n).2.2 != 0)=false):aR n=true/\aW z=true/\bd n z.ag=true/\((gO z n).2.1=true-> ∃s,s∈z.af/\s.place=((gO z n).1,2)):=by
 unfold gO at h1 D ⊢;split at D
 .simp at D
 .rename_i j;rw[if_neg j]at h1;rw[if_neg j];simp only[Bool.not_eq_true,Bool.or_eq_false_iff,Bool.not_eq_false']at j;obtain⟨H,T⟩:=j;split at h1
  .simp at h1
  .rename_i N;rw[if_neg N];have K:=bt T;have I :bd n z.ag=true:=by
    have:(bD n z.ag).1=bd n z.ag:=by unfold bD;rw[if_pos ⟨H,K.ag⟩]
    rw[<- this];simpa using N
   refine⟨H,T,I,λJ=>?_⟩;cases G:yV z n with
   |none=>rw[G]at J;cases J
   |some c =>
    simp only;unfold yV at G;obtain⟨h1,_⟩:=xn H G;obtain⟨_,_,_,_,U⟩:=Tq K h1;exact lK.1 U
def ZU{l:List Bs}(h:okL l=true/\(nameOf l).length<=60):aR (nameOf l)=true/\cu (nameOf l)=l:=by
 have j:=vO h.1;refine⟨?_,j⟩;rw[sh,j,h.1];simp[h.2]
variable {s:Signed}
def XZ{v:View}(j:s∈v.af)(hp:s.place=(v.cut,2)):0<=ib v:=by
 have h:dG v.af ⟨v.cut,2⟩=true:=lK.2 ⟨s,j,hp⟩;have:=tv v.af ⟨v.cut,2⟩;rw[h]at this;unfold ib;simpa using this
def jY(D:aW z=true):∀s∈z.af,s.set.data.length<=8/\s.sigs.length<=6:=λs j =>
 ⟨tj<|(bt D).set s j,Kw<|(rf.1 D).form s j⟩
def HH{q:bO}(K:z.af.length<=20000)(H:aW z=true)(I:aR q.name=true)(J:bd q.name z.ag=true)(c:Bs)(b:Bool):mz<|uB z q c b:=by
 have j:=jY H;have D:=bt H;exact⟨by(show z.af.length<=_;omega),D.rising,D.name,λs G=>⟨by have:=(j s G).1;omega,by have:=(j s G).2;omega⟩,I,J,.inl rfl⟩
def aaJ(n:Bs):pb n=[]\/aR (pb n)=true:=by
 unfold pb;unfold jw;split
 .rename_i h;exact .inr (ZU h).1
 .exact .inl rfl
def GY{v:View}(ok:mz v):mz<|bQ v:=by
 unfold bQ;split
 .exact ok
 .exact⟨ok.len,ok.ris,ok.val,ok.sml,ok.qv,ok.qu,aaJ _⟩
def acp(v:View)(k:Nat):View:=if k<=3 then v else bQ v
def eF(v:View):Nat->Bool
 |0=>fF v
 |1=>xq v
 |2=>rI v
 |3=>exB v.af v.q.name
 |4=>vx<|bQ v
 |5=>iC<|bQ v
 |6=>oE<|bQ v
 |_=>false
noncomputable def cxN:Cx:={cx with chg:=λg=>match Nat.beq g 108 with|true=>4|false=>cx.chg g}
def tyN:bC cxN:=bf
def abn:cxN.P.follows .mixedOrders=true:=mixed
def Qe(z:ax)(q:bO)(hf:z.af.length<=20000):NQ.Fn cx 55 [.agg<|aV z,.agg<|eY q] (.tuple [.agg<|(jr (dL z q).1).map .d,.d<|.int .i64 (dL z q).2]) []:=by
 show NQ.Fn cxN _ _ _ _
 refine gr (fun|14=>[88888]|_=>[]) tyN abn Tryz.func55 ?_;conv=>whnf
 repeat' (first
  |(refine aD ?_ ?_<;>intro h)
  |(refine⟨_,_,Tp z q.name,M ?_⟩)
  |fail)
 .exact ak rfl (by unfold dL;rw[if_pos<|by simp[*]];rfl)
 .exact ak rfl (by unfold dL;rw[if_pos<|by simp[*]];rfl)
 .rename_i V W;exact ak rfl (by unfold dL;rw[if_neg<|by simp[V,W],if_pos h];rfl)
 .rename_i V W a3;exact ak rfl (by unfold dL;rw[if_neg<|by simp[V,W],if_neg<|by simp[a3],if_pos h];rfl)
 .rename_i V W a3;obtain⟨hn,hz,hu,Z⟩:=Wm a3 h;have Y:dL z q=(hZ<|uB z q (gO z q.name).1 (gO z q.name).2.1,0):=by unfold dL;rw[if_neg<|by simp[V,W],if_neg<|by simp[a3],if_neg<|by simp[h]]
  obtain⟨v,hv⟩:∃v,uB z q (gO z q.name).1 (gO z q.name).2.1=v:=⟨_,rfl⟩
  rw[Y,hv];have ho:=bt hz;have f2:=jY hz;refine⟨_,_,Rp z q (by omega) ho.rising.pw,M ?_⟩
  have ok:mz v:=hv ▸ HH hf hz hn hu _ _;have J:=GY ok;have hh:∀s∈v.af,s.set.data.length<=900:=λs hs=>by subst hv;have:=(f2 s hs).1;omega
  have T:v.behind=true->0<=ib v:=λG=>by
   subst hv;obtain⟨s,h1,h2⟩:=Z G;exact XZ h1 h2
  refine ⟨Nat, fun k => ⟨[(4, .ptr 4 0), (9, .ptr 18 0), (65, .own 64), (66, aj 7), (67, aj k)],
      [(4,.box [aj 0,.nil 5,.d<|.str []]),(18,.box<|(dW<|acp v k).map .d),(64,.fb 162 1 [[.fn 101 [.ptr 18 0] []],[.fn 102 [.ptr 18 0] []],[.fn 103 [.ptr 18 0] []],[.fn 104 [.ptr 18 0] []],[.fn 105 [.ptr 18 0] []],[.fn 106 [.ptr 18 0] []],[.fn 107 [.ptr 18 0] []]])]⟩,
   λk=>k<=7/\ ∀j,j<k->eF v j=false,λk=>7-k,⟨0,⟨by omega,λj h=>by omega⟩,aI.keep ⟨⟨?_,?_⟩,⟨?_,?_⟩,⟨?_,?_⟩,⟨?_,?_⟩,⟨?_,?_⟩,trivial⟩ ⟨⟨?_,?_⟩,⟨?_,?_⟩,⟨?_,?_⟩,trivial⟩⟩,λk ⟨hk,I⟩=>?_⟩
  .rfl
  .rfl
  .rfl
  .rfl
  .rfl
  .rfl
  .rfl
  .rfl
  .rfl
  .rfl
  .rfl
  .rfl
  .rw[<- hv];rfl
  .rfl
  .rfl
  .rfl
  conv=>whnf
  refine aD ?_ ?_<;>intro h1
  .have km:k<7:=by simp at h1;omega
   have stop:∀(a:Ans),hZ v=a->((.tuple [.agg<|(jr<|hZ v).map .d,aj 0]):AV)= .tuple [.agg<|(jr a).map .d,aj 0]:=λa e=>by rw[e]
   have t0:∀j,j<k->eF v j=false:=I;have more:∀n,k=n->eF v n=false-> ∀j,j<k+1->eF v j=false:=λn e h j hj=>by
    rcases Nat.lt_or_eq_of_le (Nat.le_of_lt_succ hj)with h2|rfl
    .exact I j h2
    .rw[e];exact h
   have D:∀j,j<k->eF v j=false:=I;rcases k with _|_|_|_|_|_|_|k
   .refine⟨by decide,by decide,M ?_⟩
    refine⟨_,rfl,M ?_⟩
    refine⟨_,_,UD v ok hh T,M ?_⟩
    refine eR (λG=>?_) λG=>?_<;>(have H :eF v 0=_:=G;rw[G];conv=>whnf)
    .refine ak rfl ?_;rw[stop (nL v)<|by unfold hZ;simp only[eF]at *; simp[*]];rfl
    .exact⟨0+1,⟨by decide,more 0 rfl H⟩,by(show 7-(0+1)<7-0;decide),aI.keep⟩
   .refine⟨by decide,by decide,M ?_⟩
    refine⟨_,rfl,M ?_⟩
    refine⟨_,_,Wv v ok,M ?_⟩
    have K:eF v 0=false:=D 0 (by decide);refine eR (λG=>?_) λG=>?_<;>(have H :eF v 1=_:=G;rw[G];conv=>whnf)
    .refine ak rfl ?_;rw[stop (Dq v)<|by unfold hZ;simp only[eF]at *; simp[*]];rfl
    .exact⟨1+1,⟨by decide,more 1 rfl H⟩,by(show 7-(1+1)<7-1;decide),aI.keep⟩
   .refine⟨by decide,by decide,M ?_⟩
    refine⟨_,rfl,M ?_⟩
    refine⟨_,_,SK v ok,M ?_⟩
    have K:eF v 0=false:=D 0 (by decide);have N:eF v 1=false:=D 1 (by decide);refine eR (λG=>?_) λG=>?_<;>(have H :eF v 2=_:=G;rw[G];conv=>whnf)
    .refine ak rfl ?_;rw[stop (Ji v)<|by unfold hZ;simp only[eF]at *; simp[*]];rfl
    .exact⟨2+1,⟨by decide,more 2 rfl H⟩,by(show 7-(2+1)<7-2;decide),aI.keep⟩
   .refine⟨by decide,by decide,M ?_⟩
    refine⟨_,rfl,M ?_⟩
    refine⟨_,_,Rt v ok,M ?_⟩
    have K:eF v 0=false:=D 0 (by decide);have N:eF v 1=false:=D 1 (by decide);have U:eF v 2=false:=D 2 (by decide);refine eR (λG=>?_) λG=>?_<;>(have H :eF v 3=_:=G;rw[G];conv=>whnf)
    .refine ak rfl ?_;rw[stop (ot v)<|by unfold hZ;simp only[eF]at *; simp[*]];rfl
    .exact⟨3+1,⟨by decide,more 3 rfl H⟩,by(show 7-(3+1)<7-3;decide),aI.keep⟩
   .refine⟨by decide,by decide,M ?_⟩
    refine⟨_,rfl,M ?_⟩
    refine⟨_,_,YD (bQ v) J,M ?_⟩
    have K:eF v 0=false:=D 0 (by decide);have N:eF v 1=false:=D 1 (by decide);have U:eF v 2=false:=D 2 (by decide);have X:eF v 3=false:=D 3 (by decide);refine eR (λG=>?_) λG=>?_<;>(have H :eF v 4=_:=G;rw[G];conv=>whnf)
    .refine ak rfl ?_;rw[stop (Bb<|bQ v)<|by unfold hZ;simp only[eF]at *; simp[*]];rfl
    .exact⟨4+1,⟨by decide,more 4 rfl H⟩,by(show 7-(4+1)<7-4;decide),aI.keep⟩
   .refine⟨by decide,by decide,M ?_⟩
    refine⟨_,rfl,M ?_⟩
    refine⟨_,_,Iz (bQ v) J,M ?_⟩
    have K:eF v 0=false:=D 0 (by decide);have N:eF v 1=false:=D 1 (by decide);have U:eF v 2=false:=D 2 (by decide);have X:eF v 3=false:=D 3 (by decide);have c4:eF v 4=false:=D 4 (by decide);refine eR (λG=>?_) λG=>?_<;>(have H :eF v 5=_:=G;rw[G];conv=>whnf)
    .refine ak rfl ?_;rw[stop (oC<|bQ v)<|by unfold hZ;simp only[eF]at *; simp[*]];rfl
    .exact⟨5+1,⟨by decide,more 5 rfl H⟩,by(show 7-(5+1)<7-5;decide),aI.keep⟩
   .refine⟨by decide,by decide,M ?_⟩
    refine⟨_,rfl,M ?_⟩
    refine⟨_,_,Gi (bQ v) J,M ?_⟩
    have K:eF v 0=false:=D 0 (by decide);have N:eF v 1=false:=D 1 (by decide);have U:eF v 2=false:=D 2 (by decide);have X:eF v 3=false:=D 3 (by decide);have c4:eF v 4=false:=D 4 (by decide);have c5:eF v 5=false:=D 5 (by decide);refine eR (λG=>?_) λG=>?_<;>(have H :eF v 6=_:=G;rw[G];conv=>whnf)
    .refine ak rfl ?_;rw[stop (oD<|bQ v)<|by unfold hZ;simp only[eF]at *; simp[*]];rfl
    .exact⟨6+1,⟨by decide,more 6 rfl H⟩,by(show 7-(6+1)<7-6;decide),aI.keep⟩
   .omega
  .obtain rfl:k=7:=by simp at h1;omega
   refine⟨_,Rv (bQ v) J,M ?_⟩
   refine ak rfl ?_;have c:=I;have e:hZ v=qR (bQ v):=by
    have K:=c 0 (by decide);have N:=c 1 (by decide);have U:=c 2 (by decide);have X:=c 3 (by decide);have c4:=c 4 (by decide);have c5:=c 5 (by decide);have c6:=c 6 (by decide);unfold hZ;simp only[eF]at K N U X c4 c5 c6;simp[K,N,U,X,c4,c5,c6]
   rw[e];rfl
variable {k:Nat}
def Bt{α:Type}{l:List α}{x:α}{p:α->Bool}(h:l[k]? =some x):(l.take<|k+1).filter p=(l.take k).filter p++if p x=true then[x]else[]:=by
 rw[cj h,List.filter_append]
 congr 1
 cases hp:p x<;>simp[hp]
def Yc(l:List Signed)(p:Signed->Bool)(K:l.length<=100000)(H:∀s∈l,NQ.Fn cx 170 [.agg<|an s] (.d<|.bool<|p s) []) :
 NQ.Fn cx 169 [.slice 5<|l.map an,.fn 170 [] []] (.d<|.slice 5<|(l.filter p).map an) []:=by
 refine bL bf mixed Tryz.func169 ?_
 refine ⟨Nat, fun k => ⟨[(1, .d<|.fn 170 [] []), (5, .own 100), (8, .d<|.slice 5<|l.map an), (9, .d<|.int .i64 (l.map an).length), (10, aj k)],
     [(100,.row 75 5<|((l.take k).filter p).map an)]⟩,λk=>k<=l.length,λk=>l.length-k,
  ⟨0,by omega,(aI.kz 5 100 5 75 5 rfl rfl<|by decide).trans<|aI.keep⟩,λk J=>M ?_⟩
 refine aD ?_ ?_<;>intro h1
 .have j:k<l.length:=by simp at h1;omega
  obtain⟨s,D⟩:∃s,l[k]? =some s:=⟨_,ao j⟩
  have I:((l.take k).filter p).length<=k:=Nat.le_trans (List.length_filter_le _ _) (by rw[List.length_take];omega);refine⟨aB k,an s,aL D,M ?_⟩
  refine⟨_,_,H s<|aw D,M ?_⟩
  refine aD ?_ ?_<;>intro G
  .refine⟨by(show(((l.take k).filter p).map an).length+1<=_;rw[au];omega),by(show((((l.take k).filter p).map an).length+1)*80<=_;rw[au];omega),M ?_⟩
   refine⟨k+1,j,by(show l.length-(k+1)<l.length-k;omega),aI.keep ⟨ae,ae,ae,ae,⟨bj<|by omega,rfl⟩,trivial⟩ ⟨⟨by(show some (Blk.row _ _<|_++_)=some (Blk.row _ _ _);rw[Bt D,if_pos G,List.map_append];rfl),rfl⟩,trivial⟩⟩
  .refine⟨k+1,j,by(show l.length-(k+1)<l.length-k;omega),aI.keep ⟨ae,ae,ae,ae,⟨bj<|by omega,rfl⟩,trivial⟩ ⟨⟨by(rw[Bt D,if_neg<|by rw[G];decide,List.append_nil];rfl),rfl⟩,trivial⟩⟩
 .obtain rfl:k=l.length:=by simp at h1;omega
  refine ak rfl ?_;rw[List.take_length];rfl
def shown(n:Bs)(s:cH)(d:Datum):Bs:=if (decide ((wj n d.text).length>(wj n s.name).length)||wj n s.name==[46])=true then wj n d.text else wj n s.name
def Tg(s:Signed)(h1:s.set.data.length<=100000)(j:s.sigs.length<=100000):NQ.Fn cx 173 [.agg<|an s] (.agg<|(an s).map .d) []:=by
 refine bL bf mixed Tryz.func173 ?_
 (refine⟨_,_,ni _<|by simpa using h1,M ?_⟩)
 (refine⟨_,_,tQ _<|by simpa using j,M ?_⟩)
 exact ak rfl rfl
def DV:∀(L:List<|Signed×Bs) (acc:List Bs),(nam acc L).length<=acc.length+L.length
 |[],acc=>by simp[nam]
 |(s,b)::t,acc=>by
  unfold nam;have:=DV t (if rY s.set.name b=true then acc else if ui acc s.set.name=true then acc++[s.set.name]else acc);refine Nat.le_trans this ?_
  repeat' split
  all_goals (try simp)
  all_goals (try omega)
def Fg(t:Int):Int:=IntKind.i64.wrap<|1*2 ^ (min t.toNat 64)
def Fb:Datum:=⟨[],0,0⟩
def sj:cH:=⟨[],0,0,[]⟩
def named(n:Bs)(s:Signed):Bool:=s.set.name==n
def kg(l:List Signed)(n:Bs):Int:=(l.filter<|named n).foldl (λb s=>bOr .i64 b<|Fg s.set.type) 0
def lu(l:List Signed):Int:=l.foldl (λb s=>if (s.set.type==4)=true then((s.set.data[0]?).getD Fb).m else b) 0
def sQ(z:ax)(n:Bs):Int:=if (!(n==z.ag)&&xc .i64 (bOr .i64 (kg z.af n) 256) 4 != 0)=true then qJ .i64 (bOr .i64 (kg z.af n) 256) 2 else bOr .i64 (kg z.af n) 256
def AN(z:ax)(j:List Bs)(i:Nat):cH:=⟨(j[i]?).getD [],8,lu z.af,[⟨(j[(i+1) % j.length]?).getD [],sQ z<|(j[i]?).getD [],0⟩]⟩
def fX(z:ax)(j:List Bs):List cH:=(List.range j.length).map<|AN z j
def zJ{j:List Bs}{i:Nat}(h:i<j.length):(fX z j)[i]? =some (AN z j i):=by
 unfold fX;rw[bc,List.getElem?_range h];rfl
def lU(z:ax)(j:List Bs):(fX z j).length=j.length:=by unfold fX;simp
variable {l:List Signed}
def Qk(D:l[k]? =some s)(n:Bs):kg (l.take<|k+1) n=if named n s=true then bOr .i64 (kg (l.take k) n) (Fg s.set.type)else kg (l.take k) n:=by
 unfold kg;rw[cj D,List.filter_append];cases j:named n s with
 |true=>simp[j]
 |false=>simp[j]
def Ri(j:l[k]? =some s):lu (l.take<|k+1)=if (s.set.type==4)=true then((s.set.data[0]?).getD Fb).m else lu<|l.take k:=by
 unfold lu;rw[cj j,List.foldl_append];rfl
def CT(m:List<|Bs×D)(l:List Signed):Prop:= ∀n,bH n m=if l.any (named n)=true then some (.int .i64<|kg l n)else none
def Dd{n:Bs}(h:l.any (named n)=false):kg l n=0:=by
 unfold kg;have:l.filter (named n)=[]:=by
  rw[List.filter_eq_nil_iff];intro x j hp;have:=List.any_eq_false.1 h x j;exact this hp
 rw[this];rfl
def CT.put{m:List<|Bs×D}(h:CT m<|l.take k)(j:l[k]? =some s):CT (cy s.set.name (.int .i64<|bOr .i64 (kg (l.take k) s.set.name)<|Fg s.set.type) m)<|l.take<|k+1:=by
 intro n;rw[tk,Qk j,cj j,List.any_append];by_cases e:n=s.set.name
 .subst e;have:named s.set.name s=true:=by simp[named]
  simp[this]
 .have:named n s=false:=by simp[named];exact λh=>e h.symm
  rw[if_neg e,h n];simp[this]
def aaB{c:Cx}{t:TypeId}(a b:Int)(j:b≠0):Qj c .rem t (aj a) (aj b)=some (aj<|a.tmod b):=by
 show(match oL .rem .i64 a b with|some r=>some<|AV.d r|none=>none)=_
 unfold oL;rw[decide_eq_false j]
noncomputable def cxS:Cx:={cx with bld:=[85]}
def tyS:bC cxS:=bf
def abo:cxS.P.follows .mixedOrders=true:=mixed
def NR(z:ax)(j:List Bs)(hz:z.af.length<=100000)(hn:j.length<=100000)(ht:∀s∈z.af,1<=s.set.type/\ ∃d,s.set.data[0]? =some d) :
 NQ.Fn cx 172 [.agg<|aV z,.slice 1<|j.map cK] (.d<|.slice 4<|(fX z j).map bV) []:=by
 show NQ.Fn cxS _ _ _ _
 refine bL tyS abo Tryz.func172 ?_;refine⟨Nat×List (Bs×D)×Int,λx=>⟨[(1,.d<|.slice 1<|j.map cK),(2,.ptr 2 0),(5,.omap 16),(6,aj x.2.2),(18,.d<|.slice 5<|z.af.map an),(19,aj ((z.af.map an).length:Int)),(20,aj x.1)],[(2,.box<|(aV z).map .d),(16,.smap x.2.1)]⟩,
  λx=>x.1<=z.af.length/\CT x.2.1 (z.af.take x.1)/\x.2.2=lu (z.af.take x.1),λx=>z.af.length-x.1,
  ⟨(0,[],0),⟨by simp,λn=>rfl,rfl⟩,aI.keep⟩,?_⟩
 rintro⟨k,m,lf⟩ ⟨hk,hm,K⟩;simp only at hk hm K;conv=>whnf
 refine aD ?_ ?_<;>intro h1
 .have H:k<z.af.length:=by simp at h1;omega
  obtain⟨s,hs⟩:∃s,z.af[k]? =some s:=⟨_,ao H⟩
  have hK :=hm.put hs;have X :=Ri hs;have G:=hm s.set.name;obtain⟨hQ,d,hd⟩:=ht s<|aw hs;refine⟨aB k,an s,aL hs,?_⟩;obtain⟨⟨nm,ty,aJ,data⟩,sigs⟩:=s;obtain⟨t,rfl⟩:∃t:Nat,ty=t:=⟨ty.toNat,by simp only at hQ;omega⟩
  simp only at hK X G hQ hd;conv=>whnf
  (refine bJ<|M ?_)
  have step:∀b:Int,(kg (z.af.take k) nm=b)->CT (cy nm (.int .i64<|bOr .i64 b<|Fg t) m) (z.af.take<|k+1):=λb I=>by rw[<- I];exact hK
  have N:((t:Int)==4)=true->lu (z.af.take<|k+1)=d.m:=λh=>by rw[X,if_pos h,hd];rfl
  have J:((t:Int)==4)=false->lu (z.af.take<|k+1)=lf:=λh=>by rw[X,if_neg<|by rw[h];decide,K]
  cases W:(z.af.take k).any (named nm)with
  |true =>
   rw[W,if_pos rfl]at G;rw[show bH (⟨⟨nm,(t:Int),aJ,data⟩,sigs⟩:Signed).set.name (k,m,lf).snd.fst=_ from G];conv=>whnf
   refine aD ?_ ?_<;>intro h2
   .refine⟨by decide,aS d,aL (k:=0) hd,M ?_⟩
    exact⟨(k+1,_,d.m),⟨H,step _ rfl,(N h2).symm⟩,by(show z.af.length-(k+1)<z.af.length-k;omega),aI.keep⟩
   .exact⟨(k+1,_,lf),⟨H,step _ rfl,(J h2).symm⟩,by(show z.af.length-(k+1)<z.af.length-k;omega),aI.keep⟩
  |false =>
   have hI:=Dd W;rw[W,if_neg<|by decide]at G;rw[show bH (⟨⟨nm,(t:Int),aJ,data⟩,sigs⟩:Signed).set.name (k,m,lf).snd.fst=_ from G];conv=>whnf
   refine aD ?_ ?_<;>intro h2
   .refine⟨by decide,aS d,aL (k:=0) hd,M ?_⟩
    exact⟨(k+1,_,d.m),⟨H,step 0 hI,(N h2).symm⟩,by(show z.af.length-(k+1)<z.af.length-k;omega),aI.keep⟩
   .exact⟨(k+1,_,lf),⟨H,step 0 hI,(J h2).symm⟩,by(show z.af.length-(k+1)<z.af.length-k;omega),aI.keep⟩
 .obtain rfl:k=z.af.length:=by simp at h1;omega
  rw[List.take_length]at hm K;subst K;have hq:(j.map cK).length=j.length:=au _;refine⟨by omega,.inl rfl,by omega,by(simp only[au];omega),by(simp only[au];omega),M ?_⟩
  refine ⟨Nat, fun k => ⟨[(1, .d<|.slice 1<|j.map cK), (2, .ptr 2 0), (5, .omap 16), (6, aj<|lu z.af), (9, .own 47), (48, .d<|.slice 1<|j.map cK), (49, aj ((j.map cK).length : Int)), (50, aj k)],
      [(2,.box<|(aV z).map .d),(16,.smap m),(47,.row 26 4 (((fX z j).take k++List.replicate (j.length-k) sj).map bV) true)]⟩,
   λk=>k<=j.length,λk=>j.length-k,⟨0,by omega,aI.keep ⟨ae,ae,ae,ae,ae,ae,ae,ae,trivial⟩ ⟨ae,ae,⟨by(show some (Blk.row _ _ (List.replicate ((j.map cK).length:Int).toNat _) true)=some (Blk.row _ _ _ true);simp[bV,sj];done),rfl⟩,trivial⟩⟩,λk hk=>M ?_⟩
  refine aD ?_ ?_<;>intro h1
  .have H:k<j.length:=by simp at h1;omega
   obtain⟨n,hL⟩:∃n,j[k]? =some n:=⟨_,ao H⟩
   refine⟨aB k,cK n,aL hL,M ?_⟩
   have ke:AN z j k=⟨n,8,lu z.af,[⟨(j[(k+1) % j.length]?).getD [],sQ z n,0⟩]⟩:=by unfold AN;rw[hL];rfl
   have G:=hm n;have ew:IntKind.i64.wrap ((k:Int)+1)=((k+1:Nat):Int):=by rw[wrap_i64 (by omega)<|by omega];omega
   have hi:(k+1) % j.length<j.length:=Nat.mod_lt _ (by omega);obtain⟨n2,Y⟩:∃n2,j[(k+1) % j.length]? =some n2:=⟨_,ao hi⟩
   have e0:(((j.map cK).length:Nat):Int)≠0:=by rw[hq];omega
   have Z:=aaB (c:=cxS) (t:=3) (IntKind.i64.wrap<|(k:Int)+1) (((j.map cK).length:Nat):Int) e0;have e1:(IntKind.i64.wrap<|(k:Int)+1).tmod (((j.map cK).length:Nat):Int)=(((k+1) % j.length:Nat):Int):=by
    rw[ew,hq,Int.tmod_eq_emod_of_nonneg<|by omega];rfl
   rw[e1]at Z;have U:(((fX z j).take k++List.replicate (j.length-k) sj).map bV).length=j.length:=by
    rw[au,List.length_append,List.length_take,List.length_replicate,lU];omega
   have hN:(((fX z j).take k++List.replicate (j.length-k) sj).map bV)[k]? =some (bV sj):=by
    rw[bc,cL<|by rw[List.length_take,lU];omega,List.getElem?_replicate,if_pos<|by rw[List.length_take,lU];omega];rfl
   have V:=PK (zJ (z:=z) H) (lU z j) (z:=sj);rw[ke,Y,Option.getD_some]at V;have fin:∀st',aI cxS st' ⟨[(1,.d<|.slice 1<|j.map cK),(2,.ptr 2 0),(5,.omap 16),(6,aj<|lu z.af),(9,.own 47),(48,.d<|.slice 1<|j.map cK),(49,aj ((j.map cK).length:Int)),(50,aj (k+1:Nat))],
    [(2,.box<|(aV z).map .d),(16,.smap m),(47,.row 26 4 ((((fX z j).take k++List.replicate (j.length-k) sj).map bV).set k<|bV ⟨n,8,lu z.af,[⟨n2,sQ z n,0⟩]⟩) true)]⟩ ->
     aI cxS st' ⟨[(1,.d<|.slice 1<|j.map cK),(2,.ptr 2 0),(5,.omap 16),(6,aj<|lu z.af),(9,.own 47),(48,.d<|.slice 1<|j.map cK),(49,aj ((j.map cK).length:Int)),(50,aj (k+1:Nat))],
    [(2,.box<|(aV z).map .d),(16,.smap m),(47,.row 26 4 (((fX z j).take (k+1)++List.replicate (j.length-(k+1)) sj).map bV) true)]⟩:=λst' h=>by
    rw[<- List.map_set,V]at h;exact h
   have T:∀b:Int,kg z.af n=b->(∀x:Int,(x=if (!(n==z.ag)&&xc .i64 (bOr .i64 b 256) 4 != 0)=true then qJ .i64 (bOr .i64 b 256) 2 else bOr .i64 b 256)->x=sQ z n):=λb I x hx=>by
    subst I;rw[hx];rfl
   cases W:z.af.any (named n)with
   |true =>
    rw[W,if_pos rfl]at G;have g:=T _ rfl;rw[G];conv=>whnf
    repeat' (first
     |(refine aD ?_ ?_<;>intro h)
     | (split
        .rename_i I;cases I.symm.trans Z;conv=>whnf
         refine⟨aB _,cK n2,aL Y,M ?_⟩
         refine⟨aB k,by(show k<_;rw[U];exact H),M ?_⟩
         refine⟨_,hN,M ?_⟩
         refine⟨k+1,H,by(show j.length-(k+1)<j.length-k;omega),fin _<|aI.keep ⟨ae,ae,ae,ae,ae,ae,ae,⟨bj<|by omega,rfl⟩,trivial⟩ ⟨ae,ae,⟨?_,rfl⟩,trivial⟩⟩
         first
          |(rw[<- g (qJ .i64 (bOr .i64 (kg z.af n) 256) 2)<|by simp only[*, if_true,if_false,aX]];rfl)
          |(rw[<- g (bOr .i64 (kg z.af n) 256)<|by simp only[*, if_true,if_false,aX]];rfl)
        .rename_i I;exact absurd (I.symm.trans Z)<|by simp)
     |fail)
   |false =>
    rw[W,if_neg<|by decide]at G;have g:=T 0<|Dd W;have z0:(xc .i64 (bOr .i64 0 256) 4 != 0)=false:=by decide
    rw[G];conv=>whnf
    repeat' (first
     |(refine aD ?_ ?_<;>intro h)
     | (split
        .rename_i I;cases I.symm.trans Z;conv=>whnf
         refine⟨aB _,cK n2,aL Y,M ?_⟩
         refine⟨aB k,by(show k<_;rw[U];exact H),M ?_⟩
         refine⟨_,hN,M ?_⟩
         refine⟨k+1,H,by(show j.length-(k+1)<j.length-k;omega),fin _<|aI.keep ⟨ae,ae,ae,ae,ae,ae,ae,⟨bj<|by omega,rfl⟩,trivial⟩ ⟨ae,ae,⟨?_,rfl⟩,trivial⟩⟩;rw[<- g (bOr .i64 0 256)<|by rw[z0,kW];rfl];rfl
        .rename_i I;exact absurd (I.symm.trans Z)<|by simp)
     |fail)
  .obtain rfl:k=j.length:=by simp at h1;omega
   refine ak rfl ?_;rw[show(fX z j).take j.length=fX z j from List.take_of_length_le<|by rw[lU];omega,Nat.sub_self,List.replicate_zero,List.append_nil];rfl
def gZ(s:Signed):Bool:=s.set.type != 8
def cJ(z:ax):ax:=⟨z.ag,z.af.filter gZ⟩
def mj(s:Signed):List Signed->Bool
 |x::_=>x.set.name==s.set.name
 |[]=>false
def jl(s:Signed):List cH->Bool
 |y::_=>y.name==s.set.name
 |[]=>false
def iV:List Signed->List cH->List Signed->List Signed
 |[],_,acc=>acc
 |s::t,j,acc=>if mj s t=true then iV t j (acc++[s])else if jl s j=true then iV t j.tail (acc++[s]++(match j with|y::_=>[⟨y,[]⟩]|[]=>[]))else iV t j<|acc++[s]
def yr(s:Signed)(t:List Signed)(j:List cH)(acc:List Signed):iV (s::t) j acc=if mj s t=true then iV t j (acc++[s])else if jl s j=true then iV t j.tail (acc++[s]++(match j with|y::_=>[⟨y,[]⟩]|[]=>[]))else iV t j<|acc++[s]:=by
 conv=>lhs;rw[iV.eq_def]
def Ai(j:List cH)(acc:List Signed):iV [] j acc=acc:=by rw[iV.eq_def]
def eW(z:ax):ax×Int :=
 if (!aW z)=true then(⟨[],[]⟩,1)else if ((kN<|cJ z).2 != 0)=true then(⟨[],[]⟩,(kN<|cJ z).2)
 else if decide ((((cJ z).af.length:Int)+((kN<|cJ z).1.length:Int))>20000)=true then(⟨[],[]⟩,2)
 else(⟨z.ag,iV (cJ z).af (fX (cJ z) (kN<|cJ z).1) []⟩,0)
def fzC:Nat->List Nat
 |11=>[66666]
 |12=>[55555]
 |15=>[66666]
 |18=>[66666]
 |_=>[]
noncomputable def cxC:Cx:={cx with bld:=[64,106]}
def tyC:bC cxC:=bf
def abm:cxC.P.follows .mixedOrders=true:=mixed
def Tf(s:Signed):NQ.Fn cx 170 [.agg<|an s] (.d<|.bool<|gZ s) []:=by
 refine bL bf mixed Tryz.func170 ?_;exact ak rfl rfl
def stC(j:Bs)(y:ax)(D:List cH):St:=⟨[(2,.ptr 2 0),(4,.ptr 4 0),(7,.d<|.slice 4<|D.map bV),(8,.ptr 8 0)],[(2,.box [.d<|.str [],.nil 5]),(4,.box<|(aV y).map .d),(8,.box [.d<|.str j,.own 50]),(50,.row 75 5 [])]⟩
def stL(j:Bs)(y:ax)(k:Nat)(acc:List Signed)(D:List cH):St:=⟨[(2,.ptr 2 0),(4,.ptr 4 0),(7,.d<|.slice 4<|D.map bV),(8,.ptr 8 0),(53,.d<|.slice 5<|y.af.map an),(54,aj ((y.af.map an).length:Int)),(55,aj k)],[(2,.box [.d<|.str [],.nil 5]),(4,.box<|(aV y).map .d),(8,.box [.d<|.str j,.own 50]),(50,.row 75 5<|acc.map an)]⟩
def Qr(V:Bs)(y:ax)(I:List cH)(hy:y.af.length<=20000)(hn:I.length<=20000)(hs:∀s∈y.af,s.set.data.length<=100000/\s.sigs.length<=100000)(st:St)(hw:aI cxC st<|stC V y I) :
 vc cxC Tryz.f122.ntmps fzC (IP 9<|(Tryz.f122.body).getD .skip) (fnQ cxC Tryz.f122.results.toList (.tuple [.agg<|(aV ⟨V,iV y.af I []⟩).map .d,aj 0]) []) st:=by
 conv=>whnf
 refine⟨stC V y I,hw,M ?_⟩
 refine⟨Nat×List Signed×List cH,λx=>stL V y x.1 x.2.1 x.2.2,λx=>x.1<=y.af.length/\x.2.1.length<=2*x.1/\x.2.2.length<=20000/\iV (y.af.drop x.1) x.2.2 x.2.1=iV y.af I [],λx=>y.af.length-x.1,
  ⟨(0,[],I),⟨by simp,by simp,hn,rfl⟩,aI.keep⟩,?_⟩
 rintro⟨k,acc,j⟩ ⟨hk,hl,H,D⟩;simp only at hk hl H D;conv=>whnf
 refine aD ?_ ?_<;>intro h1
 .have U:k<y.af.length:=by simp at h1;omega
  obtain⟨s,T⟩:∃s,y.af[k]? =some s:=⟨_,ao U⟩
  have kb:y.af.drop k=s::y.af.drop (k+1):=by
   rw[List.drop_eq_getElem_cons U,(aA.1 T).2]
  rw[kb,yr]at D;refine⟨aB k,an s,aL T,M ?_⟩
  (refine cn<|M ?_)
  (refine⟨_,_,Tg s (hs s<|aw T).1 (hs s<|aw T).2,M ?_⟩)
  repeat' (first
   |(refine⟨by kernel_rfl,M ?_⟩)
   |(refine⟨by(show(acc.map an).length+1<=_;rw[au];omega),by(show((acc.map an).length+1)*80<=_;rw[au];omega),M ?_⟩)
   |fail)
  have ew:IntKind.i64.wrap ((k:Int)+1)=((k+1:Nat):Int):=by rw[wrap_i64 (by omega)<|by omega];omega
  have kd:((y.af.map an).length:Int)=(y.af.length:Int):=by rw[au]
  rw[show IntKind.i64.wrap (((k,acc,j):Nat×List Signed×List cH).fst+1:Int)=_ from ew,kd];have next:∀(G :List Signed) (nx' :List cH),iV (y.af.drop<|k+1) nx' G =iV y.af I []->G.length<=2*(k+1)->nx'.length<=20000-> ∀st',aI cxC st' (stL V y (k+1) G nx') ->
   ∃x:Nat×List Signed×List cH,(x.1<=y.af.length/\x.2.1.length<=2*x.1/\x.2.2.length<=20000/\iV (y.af.drop x.1) x.2.2 x.2.1=iV y.af I [])/\y.af.length-x.1<y.af.length-k/\aI cxC st' (stL V y x.1 x.2.1 x.2.2):=λG nx' N e2 W st' hw=>⟨(k+1,G,nx'),⟨U,e2,W,N⟩,by(show y.af.length-(k+1)<_;omega),hw⟩
  have K:(acc++[s]).length<=2*(k+1):=by rw[List.length_append,List.length_singleton];omega
  have N:(acc++[s]).map an=acc.map an++[an s]:=by rw[List.map_append];rfl
  cases J :y.af[k+1]? with
  |none =>
   have kc:y.af.length<=k+1:=by rwa [List.getElem?_eq_none_iff]at J
   have hX:y.af.drop (k+1)=[]:=List.drop_eq_nil_of_le kc;have h2:decide (((k+1:Nat):Int)<(y.af.length:Int))=false:=by rw[decide_eq_false];omega
   rw[h2];rw[if_neg<|by rw[hX];simp[mj]]at D;conv=>whnf
   (refine bJ<|M ?_)
   rcases j with _|⟨r,j⟩
   .rw[if_neg<|by simp[jl]]at D;conv=>whnf
    exact next _ _ D K H _ (aI.keep ⟨ae,ae,ae,ae,ae,ae,⟨bj<|by omega,rfl⟩,trivial⟩ ⟨ae,ae,ae,⟨by(show some (Blk.row _ _<|_++_)=some (Blk.row _ _ _);rw[N];rfl),rfl⟩,trivial⟩)
   .have h3:decide (((((r::j):List cH).map bV).length:Int)>0)=true:=by rw[decide_eq_true];simp
    rw[show decide (((((k,acc,r::j):Nat×List Signed×List cH).2.2.map bV).length:Int)>0)=true from h3];conv=>whnf
    refine⟨by decide,bV r,rfl,M ?_⟩
    refine aD ?_ ?_<;>intro X
    .rw[if_pos (show jl s (r::j)=true from X)]at D
     (refine cn<|M ?_)
     refine⟨by decide,bV r,rfl,M ?_⟩
     repeat' (first
      |(refine⟨by kernel_rfl,M ?_⟩)
      |(refine⟨by(show(acc.map an++[an s]).length+1<=_;rw[List.length_append,au,List.length_singleton];omega),by(show((acc.map an++[an s]).length+1)*80<=_;rw[List.length_append,au,List.length_singleton];omega),M ?_⟩)
      |(refine⟨by decide,by(show((1:Nat):Int)<=(((r::j).map bV).length:Int);rw[au,List.length_cons];omega),Int.le_refl _,M ?_⟩)
      |fail)
     have W:(acc++[s]++[(⟨r,[]⟩:Signed)]).map an=(acc.map an++[an s])++[an ⟨r,[]⟩]:=by rw[List.map_append,N];rfl
     have Z:(((r::j).map bV).drop 1).take (((r::j).map bV).length-1)=j.map bV:=List.take_of_length_le (by simp);exact next (acc++[s]++[(⟨r,[]⟩:Signed)]) j D (by rw[List.length_append,List.length_append,List.length_singleton,List.length_singleton];omega) (by simp at H;omega) _ (aI.keep ⟨ae,ae,⟨by(rw[<- Z];rfl),rfl⟩,ae,ae,ae,⟨bj<|by omega,rfl⟩,trivial⟩ ⟨ae,ae,ae,⟨by(show some (Blk.row _ _<|_++_)=some (Blk.row _ _ _);rw[W];rfl),rfl⟩,trivial⟩)
    .rw[if_neg<|show ¬jl s (r::j)=true by rw[show jl s (r::j)=false from X];decide]at D;exact next _ _ D K H _ (aI.keep ⟨ae,ae,ae,ae,ae,ae,⟨bj<|by omega,rfl⟩,trivial⟩ ⟨ae,ae,ae,⟨by(show some (Blk.row _ _<|_++_)=some (Blk.row _ _ _);rw[N];rfl),rfl⟩,trivial⟩)
  |some x =>
   have Y:k+1<y.af.length:=(aA.1 J).1;have ka:y.af.drop (k+1)=x::y.af.drop (k+2):=by
    rw[List.drop_eq_getElem_cons Y,(aA.1 J).2]
   have h2:decide (((k+1:Nat):Int)<(y.af.length:Int))=true:=by rw[decide_eq_true];omega
   have ki:mj s (y.af.drop<|k+1)=(x.set.name==s.set.name):=by rw[ka];rfl
   rw[ki]at D;rw[h2];conv=>whnf
   rw[show IntKind.i64.wrap (((k,acc,j):Nat×List Signed×List cH).fst+1:Int)=_ from ew];refine⟨aB _,an x,aL J,M ?_⟩
   refine aD ?_ ?_<;>intro h5
   .rw[if_pos h5]at D;exact next _ _ D K H _ (aI.keep ⟨ae,ae,ae,ae,ae,ae,⟨bj<|by omega,rfl⟩,trivial⟩ ⟨ae,ae,ae,⟨by(show some (Blk.row _ _<|_++_)=some (Blk.row _ _ _);rw[N];rfl),rfl⟩,trivial⟩)
   rw[if_neg<|by rw[h5];decide]at D
   (refine bJ<|M ?_)
   rcases j with _|⟨r,j⟩
   .rw[if_neg<|by simp[jl]]at D;conv=>whnf
    exact next _ _ D K H _ (aI.keep ⟨ae,ae,ae,ae,ae,ae,⟨bj<|by omega,rfl⟩,trivial⟩ ⟨ae,ae,ae,⟨by(show some (Blk.row _ _<|_++_)=some (Blk.row _ _ _);rw[N];rfl),rfl⟩,trivial⟩)
   .have h3:decide (((((r::j):List cH).map bV).length:Int)>0)=true:=by rw[decide_eq_true];simp
    rw[show decide (((((k,acc,r::j):Nat×List Signed×List cH).2.2.map bV).length:Int)>0)=true from h3];conv=>whnf
    refine⟨by decide,bV r,rfl,M ?_⟩
    refine aD ?_ ?_<;>intro X
    .rw[if_pos (show jl s (r::j)=true from X)]at D
     (refine cn<|M ?_)
     refine⟨by decide,bV r,rfl,M ?_⟩
     repeat' (first
      |(refine⟨by kernel_rfl,M ?_⟩)
      |(refine⟨by(show(acc.map an++[an s]).length+1<=_;rw[List.length_append,au,List.length_singleton];omega),by(show((acc.map an++[an s]).length+1)*80<=_;rw[List.length_append,au,List.length_singleton];omega),M ?_⟩)
      |(refine⟨by decide,by(show((1:Nat):Int)<=(((r::j).map bV).length:Int);rw[au,List.length_cons];omega),Int.le_refl _,M ?_⟩)
      |fail)
     have W:(acc++[s]++[(⟨r,[]⟩:Signed)]).map an=(acc.map an++[an s])++[an ⟨r,[]⟩]:=by rw[List.map_append,N];rfl
     have Z:(((r::j).map bV).drop 1).take (((r::j).map bV).length-1)=j.map bV:=List.take_of_length_le (by simp);exact next (acc++[s]++[(⟨r,[]⟩:Signed)]) j D (by rw[List.length_append,List.length_append,List.length_singleton,List.length_singleton];omega) (by simp at H;omega) _ (aI.keep ⟨ae,ae,⟨by(rw[<- Z];rfl),rfl⟩,ae,ae,ae,⟨bj<|by omega,rfl⟩,trivial⟩ ⟨ae,ae,ae,⟨by(show some (Blk.row _ _<|_++_)=some (Blk.row _ _ _);rw[W];rfl),rfl⟩,trivial⟩)
    .rw[if_neg<|show ¬jl s (r::j)=true by rw[show jl s (r::j)=false from X];decide]at D;exact next _ _ D K H _ (aI.keep ⟨ae,ae,ae,ae,ae,ae,⟨bj<|by omega,rfl⟩,trivial⟩ ⟨ae,ae,ae,⟨by(show some (Blk.row _ _<|_++_)=some (Blk.row _ _ _);rw[N];rfl),rfl⟩,trivial⟩)
 .obtain rfl:k=y.af.length:=by simp at h1;omega
  rw[List.drop_eq_nil_of_le<|by omega,Ai]at D;refine ak rfl ?_;rw[<- D];rfl
def Jy(z:ax):NQ.Fn cx 122 [.agg<|aV z] (.tuple [.agg<|(aV (eW z).1).map .d,.d<|.int .i64 (eW z).2]) []:=by
 show NQ.Fn cxC _ _ _ _
 refine gr fzC tyC abm Tryz.func122 ?_;conv=>whnf
 (refine⟨_,_,jI z,M ?_⟩)
 refine aD ?_ ?_<;>intro h1
 .refine ak rfl ?_;rw[eW,if_pos h1];rfl
 have hv:aW z=true:=by simpa using h1
 have ho:=bt hv;have hz:=ho.few;have j:eW z=eW z:=rfl;conv at j=>rhs;rw[eW,if_neg<|by rw[h1];decide]
 have Y:=Yc z.af gZ (by omega) (λs _=>Tf s)
 (refine⟨_,_,Y,M ?_⟩)
 have Z:(cJ z).af.length<=z.af.length:=List.length_filter_le _ _;have W:=XB<|cJ z;obtain⟨H,e,D⟩:∃H e,kN (cJ z)=(H,e):=⟨_,_,rfl⟩
 rw[D]at W j
 (refine⟨_,_,W,M ?_⟩)
 refine aD ?_ ?_<;>intro I
 .refine ak rfl ?_;rw[j,if_pos I];rfl
 have G:aW (cJ z)=true:=by
  cases G:aW (cJ z)with
  |true=>rfl
  |false =>
   exfalso
   rw[kN,if_pos<|by rw[G];rfl]at D;cases D;cases I
 have U:=bt G;have hq:H.length<=(cJ z).af.length:=by
  rw[kN,if_neg<|by rw[G];decide]at D;cases D;have h:=DV ((cJ z).af.zip<|dD<|cJ z) [];have I:(fU<|cJ z).length<=(((cJ z).af.zip<|dD<|cJ z)).length:=by simpa [fU] using h
  rw[List.length_zip]at I;omega
 have V:∀s∈(cJ z).af,1<=s.set.type/\ ∃d,s.set.data[0]? =some d:=λs N=>by
  have K:=U.set s N;refine⟨(vj K).1,?_⟩;unfold eE at K;simp only[aK,Bool.not_eq_true',Bool.or_eq_false_iff,Bool.not_eq_false']at K;have:=K.1.1.2;simp[within]at this;exact⟨_,ao<|by omega⟩
 have T:IntKind.i64.wrap ((((z.af.filter gZ).map an).length:Int)+((H.map cK).length:Int))=((cJ z).af.length:Int)+(H.length:Int):=by
  rw[au,au,wrap_i64 (by omega)<|by have:(z.af.filter gZ).length=(cJ z).af.length:=rfl;omega];rfl
 rw[show IntKind.i64.wrap ((((z.af.filter gZ).map an).length:Int)+(((H,e).fst.map cK).length:Int))=_ from T];rw[if_neg<|by rw[I];decide]at j;refine aD ?_ ?_<;>intro X
 .refine ak rfl ?_;rw[j,if_pos X];rfl
 rw[if_neg<|by rw[X];decide]at j
 (refine⟨_,_,NR (cJ z) H (by omega) (by omega) V,M ?_⟩)
 (refine cn<|M ?_)
 have J:=jY G;have fin:=Qr z.ag (cJ z) (fX (cJ z) H) (by omega) (by rw[lU];omega) λs N=>⟨by have:=J s N;omega,by have:=J s N;omega⟩;rw[j];refine⟨?_,?_⟩<;>(conv=>whnf)
 .rw[show IntKind.i64.wrap ((((z.af.filter gZ).map an).length:Int)+(((H,e).fst.map cK).length:Int))=_ from T];refine⟨by decide,.inr rfl,by omega,by(show _*80<=_;omega),by omega,M ?_⟩
  repeat' (first
   |exact fin _<|aI.keep
   |(refine⟨by kernel_rfl,M ?_⟩)
   |fail)
 .repeat' (first
   |exact fin _<|aI.keep
   |(refine⟨by kernel_rfl,M ?_⟩)
   | (rw [show IntKind.i64.wrap ((((z.af.filter gZ).map an).length : Int) + (((H, e).fst.map cK).length : Int)) = _ from T]
      refine⟨by decide,.inr rfl,by omega,by(show _*80<=_;omega),by omega,M ?_⟩)
   |fail)
