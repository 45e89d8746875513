/-
  Merged texts.
-/
import Derived.Test.YtjojkakjmoefaaaGreatDoorRaM
import Derived.Test.YtjojkakjmoefaaaGreatDoorWoM
import Derived.Maps.AppendAt
import Derived.Laws.Concat
set_option linter.all false
set_option maxHeartbeats 1000000
set_option maxRecDepth 100000
namespace Go.Proofs.YtjojkakjmoefaaaGreatDoor
open Go.RowKit
def Lt(a:Bs):bn (a++[46])=bn a++[[]]:=by
 have:=kT a [];simpa [bn] using this
def Gc(a:Bs)(c:UInt8)(G:c≠46):∃p x,bn a=p++[x]/\bn (a++[c])=p++[x++[c]]:=by
 induction a with
 |nil=>exact⟨[],[],rfl,by simp[bn,G]⟩
 |cons d a H =>
  obtain⟨p,x,h1,D⟩:=H;by_cases j:d=46
  .exact⟨[]::p,x,by simp[bn,j,h1],by simp[bn,j,D]⟩
  .cases p with
   |nil =>
    exact⟨[],d::x,by rw[bn,if_neg j,h1];rfl,by rw[List.cons_append,bn,if_neg j,D];rfl⟩
   |cons y p =>
    exact⟨(d::y)::p,x,by rw[bn,if_neg j,h1];rfl,by rw[List.cons_append,bn,if_neg j,D];rfl⟩
def qB(a:Bs):(bn a).length<=a.length+1:=by
 induction a with
 |nil=>simp[bn]
 |cons c a j =>
  unfold bn;split
  .simp;omega
  .cases h:bn a with
   |nil=>simp
   |cons x t=>rw[h]at j;simp at j ⊢;omega
def wP(a x:Bs)(h:x∈bn a):x.length<=a.length:=by
 induction a generalizing x with
 |nil=>simp[bn]at h;subst h;simp
 |cons c a D =>
  unfold bn at h;split at h
  .rcases List.mem_cons.1 h with rfl|h
   .simp
   .have:=D x h;simp;omega
  .cases j:bn a with
   |nil=>rw[j]at h;simp at h;subst h;simp
   |cons y t =>
    rw[j]at h;rcases List.mem_cons.1 h with rfl|h
    .have:=D y (by rw[j];simp);simp;omega
    .have:=D x (by rw[j];exact aZ _ h);simp;omega
def Bf(s:ByteArray)(k:Nat)(h:k<s.size):(S s).take (k+1)=(S s).take k++[s[k]]:=by
 have D:k<(S s).length:=by rw[<- bY];exact h
 have j:=pF s k h;rw[ao D]at j;rw[List.take_succ_eq_append_getElem D,Option.some.inj j]
def YG(s:ByteArray)(k:Nat)(h:k<s.size):S (s.extract k<|k+1)=[s[k]]:=by
 rw[lP];have D:k<(S s).length:=by rw[<- bY];exact h
 have j:=pF s k h;rw[ao D]at j;rw[List.drop_eq_getElem_cons D,Option.some.inj j];simp
def VB(a b:ByteArray):S (a++b)=S a++S b:=by
 unfold S;simp
end Go.Proofs.YtjojkakjmoefaaaGreatDoor

namespace Go.Proofs.YtjojkakjmoefaaaGreatDoor
open Go.RowKit Go.Shelf
def Xe:(Tryz.prog.info? 9).map (λi=>(i.zero,i.size,i.bytes))=some (some<|.string ⟨#[]⟩,1,16):=by kernel_rfl
def Nc(s:ByteArray)(hs:s.size<=60)(w:World) :
 Calls Tryz.prog 22 #[.string s] w (λe w' => ∃v,e= .returned v/\w'.ownsRow w.heap.size 9 1 v (bn<|S s).length (strCells<|bn<|S s)/\Below w.heap.size w w'):=by
 obtain⟨i0,hi,ka,kb,kc⟩:=info_parts Xe;have HI:=Lib.hid hi;have kh:=Lib.hid ka;have ki:=Lib.hid kb;have kj:=Lib.hid kc;clear hi ka kb kc
 go_enter Tryz.func22,Tryz.ntmps22
 go_wp2
 go_loopw [3,4] (λv i wr=> ∃(k m g cap:Nat),k<=s.size/\i= .int .i64 k/\v= .slice (some ⟨g,0,none⟩) (m+1) cap/\Hid (wr.ownsRow w.heap.size 9 1 (.slice (some ⟨g,0,none⟩) (m+1) cap) (m+1)<|strCells<|bn<|(S s).take k)/\Below w.heap.size w wr) (λ_ i _=>s.size-(intOf i).toNat)
 case atStart=>exact⟨0,0,w.heap.size,1,Nat.zero_le _,rfl,rfl,XO w _ _ _<|Nat.le_refl _,(Below.refl _ w).alloc (Nat.le_refl _) _⟩
 case round =>
  obtain⟨k,m,g,cap,hk,rfl,rfl,ha,hf⟩:=hrel;have hlen:(bn<|(S s).take k).length=m+1:=by have:=ha.out.1;simpa [strCells] using this
  have hm:m<=60:=by
   have:=qB<|(S s).take k;rw[hlen,List.length_take, <- bY]at this;omega
  by_cases ht:k<s.size
  .by_cases hd:(s[k].toNat:Int)=46
   .have kk:((s[k].toNat:Int)==46)=true:=by simpa using hd
    have hE:s[k]=46:=UInt8.toNat_inj.1 (by simp;omega);have hM:Hid<|bn ((S s).take<|k+1)=bn ((S s).take k)++[[]]:=by unfold Hid;rw[Bf s k ht,hE,Lt]
    have hS:w.heap.size<=g:=by
     obtain⟨u,hu⟩:∃u,(strCells<|bn<|(S s).take k)[0]? =some u:=⟨_,ao<|by simp[strCells,hlen]⟩
     exact(Hc ha.out hu).2.2.1
    have hX:=ha.out.alloc<|.cells #[.string ⟨#[]⟩] 9;have C1:Hid<|(m+1)+1<=maxLen:=by unfold Hid maxLen;omega
    have C2:Hid<|((m+1)+1)*16<=140737488355328:=by unfold Hid;omega
    have C3:Hid<|w.heap.size<=(wr.alloc<|.cells #[.string ⟨#[]⟩] 9).heap.size:=by unfold Hid;have:=hf.size;simp;omega
    have C4:Hid (∀(j:Nat) u,([.string ⟨#[]⟩]:List Value)[j]? =some u->(wr.alloc<|.cells #[.string ⟨#[]⟩] 9).cell? (Addr.add ⟨wr.heap.size,0,none⟩ j)=some u):=cell_one_new _ _ _;clear hd hE
    go_wp2_with (at_builtin;refine wpList_append_own _ rfl _ _ 76 rfl w.heap.size 9 i0 (.string ⟨#[]⟩) 1 16 Tryz.underlying76 HI.out kh.out ki.out kj.out rfl (by decide) _ (m+1) _ rfl hX ⟨wr.heap.size,0,none⟩ 1 1 [.string ⟨#[]⟩] rfl rfl C4.out (by simp[Value.oneCell']) C1.out C2.out C3.out ?_;intro v' w1 hv hF _)
    obtain⟨g',hN,rfl⟩:=ownsRow_succ hv;refine⟨⟨k+1,m+1,g',hN,by omega,by go_num,rfl,?_,?_⟩,by simp[intOf];omega⟩
    .rw[hM.out];unfold Hid strCells;rw[List.map_append];exact hv
    .refine(hf.alloc hf.size _).grown hF C3.out λj e=>?_;cases e;exact hS
   .have kk:((s[k].toNat:Int)==46)=false:=by simpa using hd
    obtain⟨p,x,hJ,hZ⟩:=Gc ((S s).take k) s[k] (λe=>hd<|by rw[e];rfl);have hW:p.length=m:=by rw[hJ]at hlen;simp at hlen;omega
    have hj:(strCells<|bn<|(S s).take k)[m]? =some (.string<|mk x):=by
     rw[hJ, <- hW];simp[strCells]
    obtain⟨kB,kE,hS,kF⟩:=Hc ha.out hj;have kf:=Lib.hid<|ha.out.stored m<|.string<|mk<|x++[s[k]];have hM:Hid<|(strCells<|bn<|(S s).take k).set m (.string<|mk<|x++[s[k]])=strCells (bn<|(S s).take<|k+1):=by
     unfold Hid;rw[Bf s k ht,hJ,hZ, <- hW];simp[strCells]
    have HX:Hid<|mk x++s.extract k (k+1)=mk (x++[s[k]]):=by
     apply Ar;rw[VB,S_mk,S_mk,YG s k ht]
    have ho:x.length<=60:=by
     have:=wP ((S s).take k) x (by rw[hJ];simp);rw[List.length_take, <- bY]at this;omega
    clear hd hJ hZ hW hj ha
    go_wp2
    have kr:IntKind.i64.wrap (m:Int)=m:=IntWalk.i64_in _ (by omega);have ks:IntKind.i64.wrap ((k:Int)+1)=(k:Int)+1:=IntWalk.i64_in _ (by omega);have kt:(0:Int)<=(k:Int)+1:=by omega
    have ku:((k:Int)+1).toNat=k+1:=by omega
    have kv:(m:Int)<(m:Int)+1:=by omega
    have kx:(k:Int)+1<=(s.size:Int):=by omega
    have kH:k+1<=s.size:=by omega
    have hQ:∀w,(Op.stringOp .add (mk x)<|s.extract k<|k+1).run Tryz.prog w= .ok (.string<|mk<|x++[s[k]]) w:=by
     intro w;rw[run_string_add_sum w _ _<|by rw[bY,bY,S_mk,YG s k ht];simp;omega,HX.out]
    have ky:(k:Int)<=(k:Int)+1:=by omega
    go_still_tail 17,(by kernel_rfl)
    clear hQ;clear kr ks kt ku kv kx ky;rw[show({heap:=wr.heap,tape:=wr.tape,drawn:=wr.drawn+1,os:=wr.os,output:=wr.output}:World)=wr.drew from rfl]
    go_wp2
    refine⟨⟨k+1,m,g,cap,by omega,by go_num,rfl,?_,?_⟩,by simp[intOf];omega⟩
    .have h1:=kf.out.1;rw[hM.out]at h1;exact h1
    .exact(hf.setCell (p:=⟨g,m,none⟩) hS _).drew
  .have HT:Hid<|(S s).take k=S s:=List.take_of_length_le (by rw[<- bY];omega);clear hlen
   go_wp2
   go_ret
   refine⟨_,rfl,?_,hf⟩;have h1:=ha.out;rw[HT.out]at h1;have h2:(bn<|S s).length=m+1:=by have:=h1.1;simpa [strCells] using this
   rw[h2];exact h1
end Go.Proofs.YtjojkakjmoefaaaGreatDoor

namespace Go.Proofs.YtjojkakjmoefaaaGreatDoor
open Go.RowKit
def Em(l:List Bs)(k:Nat):Prop:= ∀j x,j<k->l[j]? =some x->bR x=true\/(j=0/\x=[42])
def RH(l:List Bs):Em l 0:=λj _ h _=>absurd h<|Nat.not_lt_zero j
def En{l:List Bs}{k:Nat}{x:Bs}(h:Em l k)(H:l[k]? =some x)(G:bR x=true\/(k=0/\x=[42])):Em l<|k+1:=by
 intro j y I D;by_cases e:j=k
 .subst e;rw[H]at D;cases D;exact G
 .exact h j y (by omega) D
def Py{l:List Bs}{k:Nat}{x:Bs}(j:l[k]? =some x)(h1:bR x=false)(D:¬(k=0/\x=[42])):okL l=false:=by
 rw[<- Bool.not_eq_true];intro e;cases l with
 |nil=>simp at j
 |cons y t =>
  simp only[okL,aK,Bool.or_eq_true,beq_iff_eq]at e;cases k with
  |zero =>
   simp at j;subst j;rcases e.2.1 with e|e
   .exact D ⟨rfl,e⟩
   .rw[h1]at e;cases e
  |succ k =>
   simp at j;have:=aG.1 e.2.2 x<|aw j;rw[h1]at this;cases this
def UE{l:List Bs}(h:Em l l.length):okL l=decide (l.length<=8):=by
 unfold okL;cases l with
 |nil=>rfl
 |cons y t =>
  have h1:(y==[42]||bR y)=true:=by
   rcases h 0 y (by simp) (by simp)with h|h
   .simp[h]
   .simp[h.2]
  have D:t.all bR=true:=aG.2 λx G=>by
   obtain⟨j,H,e⟩:=List.getElem_of_mem G;rcases h (j+1) x (by simp;omega) (by simp[<- e])with h|h
   .exact h
   .omega
  simp[h1,D]
def Si(l m:List Bs)(d:Nat)(G:l.length=d+m.length):m <:+ l ↔ ∀j x,m[j]? =some x->l[d+j]? =some x:=by
 constructor
 .rintro⟨p,rfl⟩ j x D;have:p.length=d:=by simp at G;omega
  rw[<- this,cL<|by omega];simpa using D
 .intro h;refine⟨l.take d,?_⟩;have:l.drop d=m:=by
   apply List.ext_getElem?;intro j;rw[List.getElem?_drop];cases D:m[j]? with
   |none =>
    rw[List.getElem?_eq_none];have:=List.getElem?_eq_none_iff.1 D;omega
   |some x=>exact h j x D
  conv=>rhs;rw[<- List.take_append_drop d l,this]
end Go.Proofs.YtjojkakjmoefaaaGreatDoor

namespace Go.Proofs.YtjojkakjmoefaaaGreatDoor
open Go.RowKit Go.Shelf
def CU(s:ByteArray)(H:s.size<=60)(w:World) :
 Calls Tryz.prog 22 #[.string s] w (λe w' => ∃v,e= .returned v/\Strs w' v (bn<|S s)/\Below w.heap.size w w') :=
 (Nc s H w).mono λ_ _ ⟨v,D,G,j⟩=>⟨v,D,LB G rfl,j⟩
def VC(j:List Bs)(w:World)(e:Ending)(w' :World):Prop:= ∃v,e= .returned v/\Strs w' v j/\Below w.heap.size w w'
def Be(s:ByteArray)(hs:s.size<=60)(w:World) :
 Calls Tryz.prog 24 #[.string s] w (VC (cu<|S s) w):=by
 by_cases h0:S s=[46]
 .have HL:Hid<|cu (S s)=[]:=Xn.2 h0;have hq:=kD h0;clear h0
  go_enter Tryz.func24,Tryz.ntmps24
  go_wp2
  go_ret
  exact⟨_,rfl,.inl ⟨_,_,rfl,HL.out⟩,Below.refl _ _⟩
 .have HL:Hid<|cu (S s)=bn (S s):=qn h0;have hq:=gH h0;clear h0
  go_enter Tryz.func24,Tryz.ntmps24
  go_wp2_with (go_at_call 22;refine(CU _ (by omega) _).mono ?_;rintro e w' ⟨v,rfl,hh,hb⟩)
  go_ret
  refine⟨v,rfl,?_,hb⟩;rw[HL.out];exact hh
def IX(s:ByteArray)(w:World) :
 Calls Tryz.prog 8 #[.string s] w λe w' =>e= .returned (.bool<|aR<|S s)/\Below w.heap.size w w' :=by
 by_cases hr:S s=[46]
 .have HV:=Lib.hid<|ET s hr;have hq:=kD hr;clear hr
  go_enter Tryz.func8,Tryz.ntmps8
  go_wp2
  go_ret
  rw[HV.out];exact⟨rfl,Below.refl _ _⟩
 by_cases kl:60<s.size
 .have HV:=Lib.hid<|ES s hr kl;have hq:=gH hr;clear hr
  go_enter Tryz.func8,Tryz.ntmps8
  go_wp2
  go_ret
  rw[HV.out];exact⟨rfl,Below.refl _ _⟩
 have HV:Hid<|aR (S s)=okL (bn<|S s):=by
  have h1:(S s).length<=60:=by rw[<- bY];omega
  unfold Hid;rw[sh,qn hr];simp[hr,h1]
 have hq:=gH hr;have d60:decide ((60:Int)<s.size)=false:=by simp;omega
 clear hr
 go_enter Tryz.func8,Tryz.ntmps8
 go_wp2_with fail
 refine(CU _ (by omega) _).mono ?_;rintro e w1 ⟨v,rfl,hh,hB⟩;obtain⟨n,hn⟩:∃n,(bn<|S s).length=n:=⟨_,rfl⟩
 have kp:n<=61:=by have:=qB<|S s;rw[hn, <- bY]at this;omega
 obtain⟨ad,cp,rfl,kC,hc⟩:=hh.shape hn;have HC:=Lib.hid hc;have HN:=Lib.hid hn;clear hh hn hc
 go_wp2
 go_loop [4] (λi=> ∃k:Nat,k<=n/\i= .int .i64 k/\Em (bn<|S s) k) (λi=>n-(intOf i).toNat)
 case atStart=>exact⟨0,Nat.zero_le _,rfl,RH _⟩
 case round =>
  obtain⟨k,hk,rfl,hg⟩:=hrel;by_cases ht:k<n
  .obtain⟨x,hx⟩:∃x,(bn<|S s)[k]? =some x:=⟨_,ao<|by rw[HN.out];exact ht⟩
   obtain⟨B1,o1,hP,hI,hp⟩:=HC.out k x hx;have ho:(mk x).size<=140737488355328:=by
    rw[bY,S_mk];have:=wP (S s) x<|aw hx;rw[<- bY]at this;omega
   subst hP;have HX:=Lib.hid hx;clear hx;by_cases hl:bR x=true
   .have HG:=Lib.hid<|En hg HX.out<|.inl hl;clear hg
    go_wp2_with (go_at_call 23;refine(ri _ ho _).mono ?_;rintro e w' ⟨rfl,rfl⟩;rw[S_mk,hl])
    go_round
    case rel=>exact⟨k+1,by omega,by go_num,HG.out⟩
    case measure=>simp[intOf];omega
   .have hG :bR x=false:=by simpa using hl
    clear hl;by_cases hT:k=0
    .subst hT;have kA:w1.cell? ⟨B1,o1,none⟩=some (.string<|mk x):=hp;clear hp;by_cases hs:x=[42]
     .have HG:=Lib.hid<|En hg HX.out<|.inr ⟨rfl,hs⟩;have kq:((mk x).toList==[42])=true:=by rw[eU,S_mk,hs];rfl
      clear hg hs
      go_wp2_with (go_at_call 23;refine(ri _ ho _).mono ?_;rintro e w' ⟨rfl,rfl⟩;rw[S_mk,hG])
      go_round
      case rel=>exact⟨1,by omega,by go_num,HG.out⟩
      case measure=>simp[intOf];omega
     .have HB:=Lib.hid (Py HX.out hG λh=>hs h.2);have kq:((mk x).toList==[42])=false:=by rw[eU,S_mk];simpa using hs
      clear hg hs
      go_wp2_with (go_at_call 23;refine(ri _ ho _).mono ?_;rintro e w' ⟨rfl,rfl⟩;rw[S_mk,hG])
      go_ret
      rw[HV.out,HB.out];exact⟨rfl,hB⟩
    .have HB:=Lib.hid (Py HX.out hG λh=>hT h.1);have kG:0<k:=by omega
     clear hg hT
     go_wp2_with (go_at_call 23;refine(ri _ ho _).mono ?_;rintro e w' ⟨rfl,rfl⟩;rw[S_mk,hG])
     go_ret
     rw[HV.out,HB.out];exact⟨rfl,hB⟩
  .obtain rfl:n=k:=by omega
   have HG:Hid<|okL (bn<|S s)=decide (n<=8):=by
    have:=UE (l:=bn<|S s) (by rw[HN.out];exact hg);rw[HN.out]at this;exact this
   clear hg;by_cases h8:n<=8
   .have d8:decide ((n:Int)<=8)=true:=by simp;omega
    have HR:Hid<|aR (S s)=true:=by unfold Hid;rw[HV.out,HG.out];simp[h8]
    go_wp2
    go_ret
    rw[HR.out];exact⟨rfl,hB⟩
   .have d8:decide ((n:Int)<=8)=false:=by simp;omega
    have HR:Hid<|aR (S s)=false:=by unfold Hid;rw[HV.out,HG.out];simp[h8]
    go_wp2
    go_ret
    rw[HR.out];exact⟨rfl,hB⟩
def SD(s z:ByteArray)(hs:s.size<=60)(hz:z.size<=60)(w:World) :
 Calls Tryz.prog 9 #[.string s,.string z] w λe w' =>e= .returned (.bool<|bd (S s)<|S z)/\Below w.heap.size w w' :=by
 go_enter Tryz.func9,Tryz.ntmps9
 go_wp2_with fail
 refine(Be _ (by omega) _).mono ?_;rintro e w1 ⟨v,rfl,hh,hB⟩
 go_wp2_with fail
 refine(Be _ (by omega) _).mono ?_;rintro e w2 ⟨u,rfl,hL,hR⟩;replace hh:=hh.below hR;replace hB:=xd hB hR;clear hR;have hI:(cu<|S s).length<=61:=by
  unfold cu;split
  .simp
  .have:=qB<|S s;rw[<- bY]at this;omega
 have hK:(cu<|S z).length<=61:=by
  unfold cu;split
  .simp
  .have:=qB<|S z;rw[<- bY]at this;omega
 have hU:bd (S s) (S z)=true ↔ cu (S z) <:+ cu (S s):=by unfold bd;exact List.isSuffixOf_iff_suffix
 generalize cu (S s)=l at *
 generalize cu (S z)=m at *
 obtain⟨nm,hA⟩:∃n,m.length=n:=⟨_,rfl⟩
 by_cases hlen:l.length<m.length
 .have HR:Hid<|bd (S s) (S z)=false:=by
   unfold Hid;rw[<- Bool.not_eq_true,hU];intro h;have:=h.length_le;omega
  obtain⟨nl,hV⟩:∃n,l.length=n:=⟨_,rfl⟩
  obtain⟨a1,c1,rfl,_,_⟩:=hh.shape hV;obtain⟨a2,c2,rfl,_,_⟩:=hL.shape hA;rw[hV,hA]at hlen;clear hh hL hU hV hA hI hK
  go_wp2
  go_ret
  rw[HR.out];exact⟨rfl,hB⟩
 .obtain⟨d,hd⟩:∃d,l.length=d+nm:=⟨l.length-nm,by omega⟩
  obtain⟨a1,c1,rfl,kn,hp⟩:=hh.shape hd;obtain⟨a2,c2,rfl,ko,hD⟩:=hL.shape hA;have hY:=Lib.hid (Si l m d<|by omega);have kd:=Lib.hid hp;have ke:=Lib.hid hD;have HD:=Lib.hid hd;have HM:=Lib.hid hA;have HU:=Lib.hid hU;have kz:d+nm<=61:=by omega
  have d1:decide ((d:Int)+nm<nm)=false:=by simp;omega
  clear hh hL hU hd hA hI hK hlen hp hD
  go_wp2
  go_loopw [7] (λi wr=> ∃k:Nat,k<=nm/\i= .int .i64 k/\Hid (∀j x,j<k->m[j]? =some x->l[d+j]? =some x)/\Below w2.heap.size w2 wr) (λi _=>nm-(intOf i).toNat)
  case atStart=>exact⟨0,Nat.zero_le _,rfl,λj _ h _=>absurd h<|Nat.not_lt_zero j,Below.refl _ _⟩
  case round =>
   obtain⟨k,hk,rfl,hg,hf⟩:=hrel;by_cases ht:k<nm
   .obtain⟨x,hx⟩:∃x,m[k]? =some x:=⟨_,ao<|by rw[HM.out];exact ht⟩
    obtain⟨y,hy⟩:∃y,l[d+k]? =some y:=⟨_,ao<|by rw[HD.out];omega⟩
    obtain⟨B1,o1,hP,hI,hp⟩:=kd.out (d+k) y hy;obtain⟨B2,o2,km,hK,hD⟩:=ke.out k x hx;subst hP;subst km;have g1:=(hf.cell (p:=⟨B1,o1+(d+k),none⟩) hI).trans hp;have g2:=(hf.cell (p:=⟨B2,o2+k,none⟩) hK).trans hD;have HX:=Lib.hid hx;have HY:=Lib.hid hy;clear hx hy hp hD;have e1:IntKind.i64.wrap (d:Int)=d:=IntWalk.i64_in _ (by omega);have e2:IntKind.i64.wrap ((d:Int)+k)=(d:Int)+k:=IntWalk.i64_in _ (by omega);have e3:(0:Int)<=(d:Int)+k:=by omega
    have e4:((d:Int)+k).toNat=d+k:=by omega
    have e5:(d:Int)+k<(d:Int)+nm:=by omega
    have e6:(k:Int)<nm:=by omega
    by_cases hC:y=x
    .have hq:((mk y).toList==(mk x).toList)=true:=by rw[hC];simp
     have kg:=Lib.hid hC;clear hC
     go_wp2
     go_quiet (fail)
     clear e1 e2 e3 e4 e5 e6
     go_wp2
     go_roundw
     case rel =>
      refine⟨k+1,by omega,by go_num,?_,below_drewN hf nq⟩;intro j u hj hu;by_cases e:j=k
      .subst e;rw[HX.out]at hu;cases hu;rw[HY.out,kg.out]
      .exact hg.out j u (by omega) hu
     case measure=>simp[intOf];omega
    .have hq:((mk y).toList==(mk x).toList)=false:=by rw[eU,eU,S_mk,S_mk];simpa using hC
     have HR:Hid<|bd (S s) (S z)=false:=by
      unfold Hid;rw[<- Bool.not_eq_true,HU.out,hY.out];intro h;have:=h k x HX.out;rw[HY.out]at this;exact hC<|Option.some.inj this
     clear hC
     go_wp2
     go_quiet (fail)
     clear e1 e2 e3 e4 e5 e6
     go_wp2
     go_ret
     rw[HR.out];exact⟨rfl,below_drewN (xd hB hf) nq⟩
   .have HR:Hid<|bd (S s) (S z)=true:=by
     unfold Hid;rw[HU.out,hY.out];intro j x hx;exact hg.out j x (by have:=(aA.1 hx).1;rw[HM.out]at this;omega) hx
    go_wp2
    go_ret
    rw[HR.out];exact⟨rfl,xd hB hf⟩
end Go.Proofs.YtjojkakjmoefaaaGreatDoor

namespace Go.Proofs.YtjojkakjmoefaaaGreatDoor
open Go.RowKit
def Ig(a b:Bs):Op.bytesLess a b=decide (Lib.compareBytes a b= -1):=by
 induction a generalizing b with
 |nil=>cases b<;>simp[Op.bytesLess,Lib.compareBytes]
 |cons x a D =>
  cases b with
  |nil=>simp[Op.bytesLess,Lib.compareBytes]
  |cons y b =>
   unfold Op.bytesLess Lib.compareBytes;rw[D b];by_cases h1:x<y
   .simp[h1]
   .by_cases j:y<x
    .have:x≠y:=λe=>by subst e;exact absurd j<|UInt8.lt_irrefl x
     simp[h1,j,this]
    .have:x=y:=UInt8.le_antisymm (UInt8.not_lt.1 j)<|UInt8.not_lt.1 h1;simp[this]
end Go.Proofs.YtjojkakjmoefaaaGreatDoor

namespace Go.Proofs.YtjojkakjmoefaaaGreatDoor
open Go.RowKit Go.Shelf
