/-
  Merged texts.
-/
import Derived.Test.YtodofogcincleaaGreatDoorRaM
import Derived.Test.YtodofogcincleaaGreatDoorWoM
import Derived.Maps.AppendAt
import Derived.Laws.Concat
set_option linter.all false
set_option maxHeartbeats 1000000
set_option maxRecDepth 100000
namespace Go.Proofs.YtodofogcincleaaGreatDoor
open Go.RowKit
theorem wI(a:Bs):ba (a++[46])=ba a++[[]]:=by
 have:=jz a [];simpa [ba] using this
theorem tA(a:Bs)(c:UInt8)(hc:c≠46):∃p x,ba a=p++[x]/\ba (a++[c])=p++[x++[c]]:=by
 induction a with
 |nil=>exact⟨[],[],rfl,by simp[ba,hc]⟩
 |cons d a ih =>
  obtain⟨p,x,h1,h2⟩:=ih;by_cases hd:d=46
  .exact⟨[]::p,x,by simp[ba,hd,h1],by simp[ba,hd,h2]⟩
  .cases p with
   |nil =>
    exact⟨[],d::x,by rw[ba,if_neg hd,h1];rfl,by rw[List.cons_append,ba,if_neg hd,h2];rfl⟩
   |cons y p =>
    exact⟨(d::y)::p,x,by rw[ba,if_neg hd,h1];rfl,by rw[List.cons_append,ba,if_neg hd,h2];rfl⟩
theorem rf(a:Bs):(ba a).length<=a.length+1:=by
 induction a with
 |nil=>simp[ba]
 |cons c a ih =>
  unfold ba;split
  .simp;omega
  .cases h:ba a with
   |nil=>simp
   |cons x t=>rw[h]at ih;simp at ih ⊢;omega
theorem mz(a x:Bs)(h:x∈ba a):x.length<=a.length:=by
 induction a generalizing x with
 |nil=>simp[ba]at h;subst h;simp
 |cons c a ih =>
  unfold ba at h;split at h
  .rcases List.mem_cons.1 h with rfl|h
   .simp
   .have:=ih x h;simp;omega
  .cases hs:ba a with
   |nil=>rw[hs]at h;simp at h;subst h;simp
   |cons y t =>
    rw[hs]at h;rcases List.mem_cons.1 h with rfl|h
    .have:=ih y (by rw[hs];simp);simp;omega
    .have:=ih x (by rw[hs];exact bC _ h);simp;omega
theorem xN(s:ByteArray)(k:Nat)(h:k<s.size):(S s).take (k+1)=(S s).take k++[s[k]]:=by
 have hk:k<(S s).length:=by rw[<- cr];exact h
 have hg:=nk s k h;rw[au hk]at hg;rw[List.take_succ_eq_append_getElem hk,Option.some.inj hg]
theorem RD(s:ByteArray)(k:Nat)(h:k<s.size):S (s.extract k (k+1))=[s[k]]:=by
 rw[jX];have hk:k<(S s).length:=by rw[<- cr];exact h
 have hg:=nk s k h;rw[au hk]at hg;rw[List.drop_eq_getElem_cons hk,Option.some.inj hg];simp
theorem OV(a b:ByteArray):S (a++b)=S a++S b:=by
 unfold S;simp
end Go.Proofs.YtodofogcincleaaGreatDoor
namespace Go.Proofs.YtodofogcincleaaGreatDoor
open Go.RowKit Go.Shelf
theorem Qf:(Tryz.prog.info? 9).map (λi=>(i.zero,i.size,i.bytes))=some (some (.string ⟨#[]⟩),1,16):=by kernel_rfl
theorem Hd(s:ByteArray)(hs:s.size<=60)(w:World) :
 Calls Tryz.prog 53 #[.string s] w (λe w' => ∃v,e= .returned v/\w'.ownsRow w.heap.size 9 1 v (ba (S s)).length (strCells (ba (S s)))/\Below w.heap.size w w'):=by
 obtain⟨i0,hi,hP,hQ,hR⟩:=info_parts Qf;have HI:=Lib.hid hi;have hT:=Lib.hid hP;have hU:=Lib.hid hQ;have hV:=Lib.hid hR;clear hi hP hQ hR
 go_enter Tryz.func53,Tryz.ntmps53
 go_wp2
 go_loopw [3,4] (λv i wr=> ∃(k m g cap:Nat),k<=s.size/\i= .int .i64 k/\v= .slice (some ⟨g,0,none⟩) (m+1) cap/\Hid (wr.ownsRow w.heap.size 9 1 (.slice (some ⟨g,0,none⟩) (m+1) cap) (m+1) (strCells (ba ((S s).take k))))/\Below w.heap.size w wr) (λ_ i _=>s.size-(intOf i).toNat)
 case atStart=>exact⟨0,0,w.heap.size,1,Nat.zero_le _,rfl,rfl,QN w _ _ _ (Nat.le_refl _),(Below.refl _ w).alloc (Nat.le_refl _) _⟩
 case round =>
  obtain⟨k,m,g,cap,hk,rfl,rfl,ha,ht⟩:=hrel;have hlen:(ba ((S s).take k)).length=m+1:=by have:=ha.out.1;simpa [strCells] using this
  have hm:m<=60:=by
   have:=rf ((S s).take k);rw[hlen,List.length_take, <- cr]at this;omega
  by_cases hp:k<s.size
  .by_cases hd:(s[k].toNat:Int)=46
   .have hW:((s[k].toNat:Int)==46)=true:=by simpa using hd
    have hv:s[k]=46:=UInt8.toNat_inj.1 (by simp;omega);have hD:Hid (ba ((S s).take (k+1))=ba ((S s).take k)++[[]]):=by unfold Hid;rw[xN s k hp,hv,wI]
    have hG:w.heap.size<=g:=by
     obtain⟨u,hu⟩:∃u,(strCells (ba ((S s).take k)))[0]? =some u:=⟨_,au (by simp[strCells,hlen])⟩
     exact(CS ha.out hu).2.2.1
    have hK:=ha.out.alloc (.cells #[.string ⟨#[]⟩] 9);have C1:Hid ((m+1)+1<=maxLen):=by unfold Hid maxLen;omega
    have C2:Hid (((m+1)+1)*16<=140737488355328):=by unfold Hid;omega
    have C3:Hid (w.heap.size<=(wr.alloc (.cells #[.string ⟨#[]⟩] 9)).heap.size):=by unfold Hid;have:=ht.size;simp;omega
    have C4:Hid (∀(j:Nat) u,([.string ⟨#[]⟩]:List Value)[j]? =some u->(wr.alloc (.cells #[.string ⟨#[]⟩] 9)).cell? (Addr.add ⟨wr.heap.size,0,none⟩ j)=some u):=cell_one_new _ _ _;clear hd hv
    go_wp2_with (at_builtin;refine wpList_append_own _ rfl _ _ 113 rfl w.heap.size 9 i0 (.string ⟨#[]⟩) 1 16 Tryz.underlying113 HI.out hT.out hU.out hV.out rfl (by decide) _ (m+1) _ rfl hK ⟨wr.heap.size,0,none⟩ 1 1 [.string ⟨#[]⟩] rfl rfl C4.out (by simp[Value.oneCell']) C1.out C2.out C3.out ?_;intro v' w1 hh hz _)
    obtain⟨g',hE,rfl⟩:=ownsRow_succ hh;refine⟨⟨k+1,m+1,g',hE,by omega,by go_num,rfl,?_,?_⟩,by simp[intOf];omega⟩
    .rw[hD.out];unfold Hid strCells;rw[List.map_append];exact hh
    .refine(ht.alloc ht.size _).grown hz C3.out (λj e=>?_);cases e;exact hG
   .have hW:((s[k].toNat:Int)==46)=false:=by simpa using hd
    obtain⟨p,x,hC,hM⟩:=tA ((S s).take k) s[k] (λe=>hd (by rw[e];rfl));have hJ:p.length=m:=by rw[hC]at hlen;simp at hlen;omega
    have hj:(strCells (ba ((S s).take k)))[m]? =some (.string (mk x)):=by
     rw[hC, <- hJ];simp[strCells]
    obtain⟨kj,kl,hG,km⟩:=CS ha.out hj;have hS:=Lib.hid (ha.out.stored m (.string (mk (x++[s[k]]))));have hD:Hid ((strCells (ba ((S s).take k))).set m (.string (mk (x++[s[k]])))=strCells (ba ((S s).take (k+1)))):=by
     unfold Hid;rw[xN s k hp,hC,hM, <- hJ];simp[strCells]
    have HX:Hid (mk x++s.extract k (k+1)=mk (x++[s[k]])):=by
     apply zC;rw[OV,S_mk,S_mk,RD s k hp]
    have hf:x.length<=60:=by
     have:=mz ((S s).take k) x (by rw[hC];simp);rw[List.length_take, <- cr]at this;omega
    clear hd hC hM hJ hj ha
    go_wp2
    have kb:IntKind.i64.wrap (m:Int)=m:=IntWalk.i64_in _ (by omega);have kc:IntKind.i64.wrap ((k:Int)+1)=(k:Int)+1:=IntWalk.i64_in _ (by omega);have kd:(0:Int)<=(k:Int)+1:=by omega
    have ke:((k:Int)+1).toNat=k+1:=by omega
    have kf:(m:Int)<(m:Int)+1:=by omega
    have kg:(k:Int)+1<=(s.size:Int):=by omega
    have kp:k+1<=s.size:=by omega
    have hF:∀w,(Op.stringOp .add (mk x) (s.extract k (k+1))).run Tryz.prog w= .ok (.string (mk (x++[s[k]]))) w:=by
     intro w;rw[run_string_add_sum w _ _ (by rw[cr,cr,S_mk,RD s k hp];simp;omega),HX.out]
    have kh:(k:Int)<=(k:Int)+1:=by omega
    go_still_tail 17,(by kernel_rfl)
    clear hF;clear kb kc kd ke kf kg kh;rw[show({heap:=wr.heap,tape:=wr.tape,drawn:=wr.drawn+1,os:=wr.os,output:=wr.output}:World)=wr.drew from rfl]
    go_wp2
    refine⟨⟨k+1,m,g,cap,by omega,by go_num,rfl,?_,?_⟩,by simp[intOf];omega⟩
    .have h1:=hS.out.1;rw[hD.out]at h1;exact h1
    .exact(ht.setCell (p:=⟨g,m,none⟩) hG _).drew
  .have HT:Hid ((S s).take k=S s):=List.take_of_length_le (by rw[<- cr];omega);clear hlen
   go_wp2
   go_ret
   refine⟨_,rfl,?_,ht⟩;have h1:=ha.out;rw[HT.out]at h1;have h2:(ba (S s)).length=m+1:=by have:=h1.1;simpa [strCells] using this
   rw[h2];exact h1
end Go.Proofs.YtodofogcincleaaGreatDoor
namespace Go.Proofs.YtodofogcincleaaGreatDoor
open Go.RowKit
def AP(l:List Bs)(k:Nat):Prop:= ∀j x,j<k->l[j]? =some x->bY x=true\/(j=0/\x=[42])
theorem Lq(l:List Bs):AP l 0:=λj _ h _=>absurd h (Nat.not_lt_zero j)
theorem AQ{l:List Bs}{k:Nat}{x:Bs}(h:AP l k)(hx:l[k]? =some x)(hg:bY x=true\/(k=0/\x=[42])):AP l (k+1):=by
 intro j y hj hy;by_cases e:j=k
 .subst e;rw[hx]at hy;cases hy;exact hg
 .exact h j y (by omega) hy
theorem JA{l:List Bs}{k:Nat}{x:Bs}(hx:l[k]? =some x)(h1:bY x=false)(h2:¬(k=0/\x=[42])):okL l=false:=by
 rw[<- Bool.not_eq_true];intro e;cases l with
 |nil=>simp at hx
 |cons y t =>
  simp only[okL,aU,Bool.or_eq_true,beq_iff_eq]at e;cases k with
  |zero =>
   simp at hx;subst hx;rcases e.2.1 with e|e
   .exact h2 ⟨rfl,e⟩
   .rw[h1]at e;cases e
  |succ k =>
   simp at hx;have:=aI.1 e.2.2 x (aD hx);rw[h1]at this;cases this
theorem Oa{l:List Bs}(h:AP l l.length):okL l=decide (l.length<=8):=by
 unfold okL;cases l with
 |nil=>rfl
 |cons y t =>
  have h1:(y==[42]||bY y)=true:=by
   rcases h 0 y (by simp) (by simp)with h|h
   .simp[h]
   .simp[h.2]
  have h2:t.all bY=true:=aI.2 λx hx=>by
   obtain⟨j,hj,e⟩:=List.getElem_of_mem hx;rcases h (j+1) x (by simp;omega) (by simp[<- e])with h|h
   .exact h
   .omega
  simp[h1,h2]
end Go.Proofs.YtodofogcincleaaGreatDoor
namespace Go.Proofs.YtodofogcincleaaGreatDoor
open Go.RowKit Go.Shelf
theorem JV(s:ByteArray)(hs:s.size<=60)(w:World) :
 Calls Tryz.prog 53 #[.string s] w (λe w' => ∃v,e= .returned v/\Strs w' v (ba (S s))/\Below w.heap.size w w') :=
 (Hd s hs w).mono λ_ _ ⟨v,he,ho,hb⟩=>⟨v,he,GD ho rfl,hb⟩
theorem Ei(s:ByteArray)(w:World) :
 Calls Tryz.prog 22 #[.string s] w λe w' =>e= .returned (.bool (bq (S s)))/\Below w.heap.size w w' :=by
 by_cases hr:S s=[46]
 .have HV:=Lib.hid (Bp s hr);have hq:=kr hr;clear hr
  go_enter Tryz.func22,Tryz.ntmps22
  go_wp2
  go_ret
  rw[HV.out];exact⟨rfl,Below.refl _ _⟩
 by_cases hX:60<s.size
 .have HV:=Lib.hid (Bo s hr hX);have hq:=gD hr;clear hr
  go_enter Tryz.func22,Tryz.ntmps22
  go_wp2
  go_ret
  rw[HV.out];exact⟨rfl,Below.refl _ _⟩
 have HV:Hid (bq (S s)=okL (ba (S s))):=by
  have h1:(S s).length<=60:=by rw[<- cr];omega
  unfold Hid;rw[rZ,pV hr];simp[hr,h1]
 have hq:=gD hr;have d60:decide ((60:Int)<s.size)=false:=by simp;omega
 clear hr
 go_enter Tryz.func22,Tryz.ntmps22
 go_wp2_with fail
 refine(JV _ (by omega) _).mono ?_;rintro e w1 ⟨v,rfl,hN,hB⟩;obtain⟨n,hn⟩:∃n,(ba (S s)).length=n:=⟨_,rfl⟩
 have hZ:n<=61:=by have:=rf (S s);rw[hn, <- cr]at this;omega
 obtain⟨ad,cp,rfl,kk,hc⟩:=hN.shape hn;have HC:=Lib.hid hc;have HN:=Lib.hid hn;clear hN hn hc
 go_wp2
 go_loop [4] (λi=> ∃k:Nat,k<=n/\i= .int .i64 k/\AP (ba (S s)) k) (λi=>n-(intOf i).toNat)
 case atStart=>exact⟨0,Nat.zero_le _,rfl,Lq _⟩
 case round =>
  obtain⟨k,hk,rfl,hg⟩:=hrel;by_cases hp:k<n
  .obtain⟨x,hx⟩:∃x,(ba (S s))[k]? =some x:=⟨_,au (by rw[HN.out];exact hp)⟩
   obtain⟨B1,o1,hY,ko,hL⟩:=HC.out k x hx;have hf:(mk x).size<=140737488355328:=by
    rw[cr,S_mk];have:=mz (S s) x (aD hx);rw[<- cr]at this;omega
   subst hY;have HX:=Lib.hid hx;clear hx;by_cases hl:bY x=true
   .have HG:=Lib.hid (AQ hg HX.out (.inl hl));clear hg
    go_wp2_with (go_at_call 54;refine(oK _ hf _).mono ?_;rintro e w' ⟨rfl,rfl⟩;rw[S_mk,hl])
    go_round
    case rel=>exact⟨k+1,by omega,by go_num,HG.out⟩
    case measure=>simp[intOf];omega
   .have hA :bY x=false:=by simpa using hl
    clear hl;by_cases hI:k=0
    .subst hI;have ki:w1.cell? ⟨B1,o1,none⟩=some (.string (mk x)):=hL;clear hL;by_cases hs:x=[42]
     .have HG:=Lib.hid (AQ hg HX.out (.inr ⟨rfl,hs⟩));have ka:((mk x).toList==[42])=true:=by rw[fB,S_mk,hs];rfl
      clear hg hs
      go_wp2_with (go_at_call 54;refine(oK _ hf _).mono ?_;rintro e w' ⟨rfl,rfl⟩;rw[S_mk,hA])
      go_round
      case rel=>exact⟨1,by omega,by go_num,HG.out⟩
      case measure=>simp[intOf];omega
     .have HB:=Lib.hid (JA HX.out hA (λh=>hs h.2));have ka:((mk x).toList==[42])=false:=by rw[fB,S_mk];simpa using hs
      clear hg hs
      go_wp2_with (go_at_call 54;refine(oK _ hf _).mono ?_;rintro e w' ⟨rfl,rfl⟩;rw[S_mk,hA])
      go_ret
      rw[HV.out,HB.out];exact⟨rfl,hB⟩
    .have HB:=Lib.hid (JA HX.out hA (λh=>hI h.1));have kn:0<k:=by omega
     clear hg hI
     go_wp2_with (go_at_call 54;refine(oK _ hf _).mono ?_;rintro e w' ⟨rfl,rfl⟩;rw[S_mk,hA])
     go_ret
     rw[HV.out,HB.out];exact⟨rfl,hB⟩
  .obtain rfl:n=k:=by omega
   have HG:Hid (okL (ba (S s))=decide (n<=8)):=by
    have:=Oa (l:=ba (S s)) (by rw[HN.out];exact hg);rw[HN.out]at this;exact this
   clear hg;by_cases h8:n<=8
   .have d8:decide ((n:Int)<=8)=true:=by simp;omega
    have HR:Hid (bq (S s)=true):=by unfold Hid;rw[HV.out,HG.out];simp[h8]
    go_wp2
    go_ret
    rw[HR.out];exact⟨rfl,hB⟩
   .have d8:decide ((n:Int)<=8)=false:=by simp;omega
    have HR:Hid (bq (S s)=false):=by unfold Hid;rw[HV.out,HG.out];simp[h8]
    go_wp2
    go_ret
    rw[HR.out];exact⟨rfl,hB⟩
end Go.Proofs.YtodofogcincleaaGreatDoor
namespace Go.Proofs.YtodofogcincleaaGreatDoor
open Go.RowKit
theorem Du(a b:Bs):Op.bytesLess a b=decide (Lib.compareBytes a b= -1):=by
 induction a generalizing b with
 |nil=>cases b <;> simp[Op.bytesLess,Lib.compareBytes]
 |cons x a ih =>
  cases b with
  |nil=>simp[Op.bytesLess,Lib.compareBytes]
  |cons y b =>
   unfold Op.bytesLess Lib.compareBytes;rw[ih b];by_cases h1:x<y
   .simp[h1]
   .by_cases h2:y<x
    .have:x≠y:=λe=>by subst e;exact absurd h2 (UInt8.lt_irrefl x)
     simp[h1,h2,this]
    .have:x=y:=UInt8.le_antisymm (UInt8.not_lt.1 h2) (UInt8.not_lt.1 h1);simp[this]
end Go.Proofs.YtodofogcincleaaGreatDoor
namespace Go.Proofs.YtodofogcincleaaGreatDoor
open Go.RowKit Go.Shelf
end Go.Proofs.YtodofogcincleaaGreatDoor
