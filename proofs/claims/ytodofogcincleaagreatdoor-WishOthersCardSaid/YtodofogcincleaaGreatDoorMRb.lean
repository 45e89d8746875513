/-
  Merged texts.
-/
import Derived.Test.YtodofogcincleaaGreatDoorRaM
import Derived.Test.YtodofogcincleaaGreatDoorWoM
import Derived.Maps.AppendAt
import Derived.Laws.Concat
set_option linter.all false
namespace NP
open Go Go.RowKit
theorem uE(a:Bs):aJ (a++[46])=aJ a++[[]]:=by
 have:=iq a [];simpa [aJ] using this
theorem rO(a:Bs)(c:UInt8)(hc:c≠46):∃p x,aJ a=p++[x]/\aJ (a++[c])=p++[x++[c]]:=by
 induction a with
 |nil=>exact⟨[],[],rfl,by simp[aJ,hc]⟩
 |cons d a ih =>
  obtain⟨p,x,h1,h2⟩:=ih;by_cases hd:d=46
  . exact⟨[]::p,x,by simp[aJ,hd,h1],by simp[aJ,hd,h2]⟩
  . cases p with
    |nil =>
     exact⟨[],d::x,by rw[aJ,if_neg hd,h1];rfl,by rw[List.cons_append,aJ,if_neg hd,h2];rfl⟩
    |cons y p =>
     exact⟨(d::y)::p,x,by rw[aJ,if_neg hd,h1];rfl,by rw[List.cons_append,aJ,if_neg hd,h2];rfl⟩
theorem pJ(a:Bs):(aJ a).length<=a.length+1:=by
 induction a with
 |nil=>simp[aJ]
 |cons c a ih =>
  unfold aJ;split
  . simp;omega
  . cases h:aJ a with
    |nil=>simp
    |cons x t=>rw[h]at ih;simp at ih ⊢;omega
theorem kQ(a x:Bs)(h:x∈aJ a):x.length<=a.length:=by
 induction a generalizing x with
 |nil=>simp[aJ]at h;subst h;simp
 |cons c a ih =>
  unfold aJ at h;split at h
  . rcases List.mem_cons.1 h with rfl|h
    . simp
    . have:=ih x h;simp;omega
  . cases hs:aJ a with
    |nil=>rw[hs]at h;simp at h;subst h;simp
    |cons y t =>
     rw[hs]at h;rcases List.mem_cons.1 h with rfl|h
     . have:=ih y (by rw[hs];simp);simp;omega
     . have:=ih x (by rw[hs];exact bk _ h);simp;omega
theorem vE(s:ByteArray)(k:Nat)(h:k<s.size):(S s).take (k+1)=(S s).take k++[s[k]]:=by
 have hk:k<(S s).length:=by rw[<- bG];exact h
 have hg:=lQ s k h;rw[ai hk]at hg;rw[List.take_succ_eq_append_getElem hk,Option.some.inj hg]
theorem OL(s:ByteArray)(k:Nat)(h:k<s.size):S (s.extract k (k+1))=[s[k]]:=by
 rw[iQ];have hk:k<(S s).length:=by rw[<- bG];exact h
 have hg:=lQ s k h;rw[ai hk]at hg;rw[List.drop_eq_getElem_cons hk,Option.some.inj hg];simp
theorem Mf(a b:ByteArray):S (a++b)=S a++S b:=by
 unfold S;simp
end NP
namespace Go.Proofs.YtodofogcincleaaGreatDoor
open Go.RowKit Go.Shelf NP
theorem No:(Tryz.prog.info? 9).map (λi=>(i.zero,i.size,i.bytes))=some (some (.string ⟨#[]⟩),1,16):=by kernel_rfl
set_option maxRecDepth 100000 in
set_option maxHeartbeats 1000000 in
theorem EJ(s:ByteArray)(hs:s.size<=60)(w:World) :
 Calls Tryz.prog 53 #[.string s] w (λe w' => ∃v,e= .returned v/\w'.ownsRow w.heap.size 9 1 v (aJ (S s)).length (strCells (aJ (S s)))/\Below w.heap.size w w'):=by
 obtain⟨i0,hi,hz0,hz1,hz2⟩:=info_parts No;have HI:=Lib.hid hi;have HZ0:=Lib.hid hz0;have HZ1:=Lib.hid hz1;have HZ2:=Lib.hid hz2;clear hi hz0 hz1 hz2
 go_enter Tryz.func53,Tryz.ntmps53
 go_wp2
 go_loopw [3,4] (λv i wr=> ∃(k m g cap:Nat),k<=s.size/\i= .int .i64 k/\v= .slice (some ⟨g,0,none⟩) (m+1) cap/\Hid (wr.ownsRow w.heap.size 9 1 (.slice (some ⟨g,0,none⟩) (m+1) cap) (m+1) (strCells (aJ ((S s).take k))))/\Below w.heap.size w wr) (λ_ i _=>s.size-(intOf i).toNat)
 case atStart=>exact⟨0,0,w.heap.size,1,Nat.zero_le _,rfl,rfl,NU w _ _ _ (Nat.le_refl _),(Below.refl _ w).alloc (Nat.le_refl _) _⟩
 case round =>
  obtain⟨k,m,g,cap,hk,rfl,rfl,hown,hbw⟩:=hrel;have hlen:(aJ ((S s).take k)).length=m+1:=by have:=hown.out.1;simpa [strCells] using this
  have hm:m<=60:=by
   have:=pJ ((S s).take k);rw[hlen,List.length_take, <- bG]at this;omega
  by_cases hlt:k<s.size
  . by_cases hd:(s[k].toNat:Int)=46
    . have b46:((s[k].toNat:Int)==46)=true:=by simpa using hd
      have hc46:s[k]=46:=UInt8.toNat_inj.1 (by simp;omega);have HSP:Hid (aJ ((S s).take (k+1))=aJ ((S s).take k)++[[]]):=by unfold Hid;rw[vE s k hlt,hc46,uE]
      have hbg:w.heap.size<=g:=by
       obtain⟨u,hu⟩:∃u,(strCells (aJ ((S s).take k)))[0]? =some u:=⟨_,ai (by simp[strCells,hlen])⟩
       exact(AT hown.out hu).2.2.1
      have own1:=hown.out.alloc (.cells #[.string ⟨#[]⟩] 9);have C1:Hid ((m+1)+1<=maxLen):=by unfold Hid maxLen;omega
      have C2:Hid (((m+1)+1)*16<=140737488355328):=by unfold Hid;omega
      have C3:Hid (w.heap.size<=(wr.alloc (.cells #[.string ⟨#[]⟩] 9)).heap.size):=by unfold Hid;have:=hbw.size;simp;omega
      have C4:Hid (∀(j:Nat) u,([.string ⟨#[]⟩]:List Value)[j]? =some u->(wr.alloc (.cells #[.string ⟨#[]⟩] 9)).cell? (Addr.add ⟨wr.heap.size,0,none⟩ j)=some u):=cell_one_new _ _ _;clear hd hc46
      go_wp2_with (at_builtin;refine wpList_append_own _ rfl _ _ 113 rfl w.heap.size 9 i0 (.string ⟨#[]⟩) 1 16 Tryz.underlying113 HI.out HZ0.out HZ1.out HZ2.out rfl (by decide) _ (m+1) _ rfl own1 ⟨wr.heap.size,0,none⟩ 1 1 [.string ⟨#[]⟩] rfl rfl C4.out (by simp[Value.oneCell']) C1.out C2.out C3.out ?_;intro v' w1 hown1 hgrow _)
      obtain⟨g',cap',rfl⟩:=ownsRow_succ hown1;refine⟨⟨k+1,m+1,g',cap',by omega,by go_num,rfl,?_,?_⟩,by simp[intOf];omega⟩
      . rw[HSP.out];unfold Hid strCells;rw[List.map_append];exact hown1
      . refine(hbw.alloc hbw.size _).grown hgrow C3.out (λj e=>?_);cases e;exact hbg
    . have b46:((s[k].toNat:Int)==46)=false:=by simpa using hd
      obtain⟨p,x,hp1,hp2⟩:=rO ((S s).take k) s[k] (λe=>hd (by rw[e];rfl));have hpl:p.length=m:=by rw[hp1]at hlen;simp at hlen;omega
      have hj:(strCells (aJ ((S s).take k)))[m]? =some (.string (mk x)):=by
       rw[hp1, <- hpl];simp[strCells]
      obtain⟨hcl,hfz,hbg,hgl⟩:=AT hown.out hj;have HST:=Lib.hid (hown.out.stored m (.string (mk (x++[s[k]]))));have HSP:Hid ((strCells (aJ ((S s).take k))).set m (.string (mk (x++[s[k]])))=strCells (aJ ((S s).take (k+1)))):=by
       unfold Hid;rw[vE s k hlt,hp1,hp2, <- hpl];simp[strCells]
      have HX:Hid (mk x++s.extract k (k+1)=mk (x++[s[k]])):=by
       apply xv;rw[Mf,S_mk,S_mk,OL s k hlt]
      have hx60:x.length<=60:=by
       have:=kQ ((S s).take k) x (by rw[hp1];simp);rw[List.length_take, <- bG]at this;omega
      clear hd hp1 hp2 hpl hj hown
      go_wp2
      have hw1:IntKind.i64.wrap (m:Int)=m:=IntWalk.i64_in _ (by omega);have hw2:IntKind.i64.wrap ((k:Int)+1)=(k:Int)+1:=IntWalk.i64_in _ (by omega);have hw3:(0:Int)<=(k:Int)+1:=by omega
      have hw4:((k:Int)+1).toNat=k+1:=by omega
      have hw5:(m:Int)<(m:Int)+1:=by omega
      have hw6:(k:Int)+1<=(s.size:Int):=by omega
      have hw7:k+1<=s.size:=by omega
      have hadd:∀w,(Op.stringOp .add (mk x) (s.extract k (k+1))).run Tryz.prog w= .ok (.string (mk (x++[s[k]]))) w:=by
       intro w;rw[run_string_add_sum w _ _ (by rw[bG,bG,S_mk,OL s k hlt];simp;omega),HX.out]
      have hw8:(k:Int)<=(k:Int)+1:=by omega
      go_still_tail 17,(by kernel_rfl)
      clear hadd;clear hw1 hw2 hw3 hw4 hw5 hw6 hw8;rw[show({heap:=wr.heap,tape:=wr.tape,drawn:=wr.drawn+1,os:=wr.os,output:=wr.output}:World)=wr.drew from rfl]
      go_wp2
      refine⟨⟨k+1,m,g,cap,by omega,by go_num,rfl,?_,?_⟩,by simp[intOf];omega⟩
      . have h1:=HST.out.1;rw[HSP.out]at h1;exact h1
      . exact(hbw.setCell (p:=⟨g,m,none⟩) hbg _).drew
  . have HT:Hid ((S s).take k=S s):=List.take_of_length_le (by rw[<- bG];omega);clear hlen
    go_wp2
    go_ret
    refine⟨_,rfl,?_,hbw⟩;have h1:=hown.out;rw[HT.out]at h1;have h2:(aJ (S s)).length=m+1:=by have:=h1.1;simpa [strCells] using this
    rw[h2];exact h1
end Go.Proofs.YtodofogcincleaaGreatDoor
namespace NP
open Go Go.RowKit
def yG(l:List Bs)(k:Nat):Prop:= ∀j x,j<k->l[j]? =some x->bC x=true\/(j=0/\x=[42])
theorem IM(l:List Bs):yG l 0:=λj _ h _=>absurd h (Nat.not_lt_zero j)
theorem yH{l:List Bs}{k:Nat}{x:Bs}(h:yG l k)(hx:l[k]? =some x)(hg:bC x=true\/(k=0/\x=[42])):yG l (k+1):=by
 intro j y hj hy;by_cases e:j=k
 . subst e;rw[hx]at hy;cases hy;exact hg
 . exact h j y (by omega) hy
theorem GA{l:List Bs}{k:Nat}{x:Bs}(hx:l[k]? =some x)(h1:bC x=false)(h2:¬(k=0/\x=[42])):okL l=false:=by
 rw[<- Bool.not_eq_true];intro e;cases l with
 |nil=>simp at hx
 |cons y t =>
  simp only[okL,aF,Bool.or_eq_true,beq_iff_eq]at e;cases k with
  |zero =>
   simp at hx;subst hx;rcases e.2.1 with e|e
   . exact h2 ⟨rfl,e⟩
   . rw[h1]at e;cases e
  |succ k =>
   simp at hx;have:=ay.1 e.2.2 x (au hx);rw[h1]at this;cases this
theorem Lk{l:List Bs}(h:yG l l.length):okL l=decide (l.length<=8):=by
 unfold okL;cases l with
 |nil=>rfl
 |cons y t =>
  have h1:(y==[42]||bC y)=true:=by
   rcases h 0 y (by simp) (by simp)with h|h
   . simp[h]
   . simp[h.2]
  have h2:t.all bC=true:=ay.2 λx hx=>by
   obtain⟨j,hj,e⟩:=List.getElem_of_mem hx;rcases h (j+1) x (by simp;omega) (by simp[<- e])with h|h
   . exact h
   . omega
  simp[h1,h2]
end NP
namespace Go.Proofs.YtodofogcincleaaGreatDoor
open Go.RowKit Go.Shelf NP
theorem GV(s:ByteArray)(hs:s.size<=60)(w:World) :
 Calls Tryz.prog 53 #[.string s] w (λe w' => ∃v,e= .returned v/\Strs w' v (aJ (S s))/\Below w.heap.size w w') :=
 (EJ s hs w).mono λ_ _ ⟨v,he,ho,hb⟩=>⟨v,he,Em ho rfl,hb⟩
set_option maxRecDepth 100000 in
set_option maxHeartbeats 1000000 in
theorem Cd(s:ByteArray)(w:World) :
 Calls Tryz.prog 22 #[.string s] w λe w' =>e= .returned (.bool (aQ (S s)))/\Below w.heap.size w w' :=by
 by_cases hr:S s=[46]
 . have HV:=Lib.hid (zj s hr);have hq:=jb hr;clear hr
   go_enter Tryz.func22,Tryz.ntmps22
   go_wp2
   go_ret
   rw[HV.out];exact⟨rfl,Below.refl _ _⟩
 by_cases h60:60<s.size
 . have HV:=Lib.hid (zi s hr h60);have hq:=ff hr;clear hr
   go_enter Tryz.func22,Tryz.ntmps22
   go_wp2
   go_ret
   rw[HV.out];exact⟨rfl,Below.refl _ _⟩
 have HV:Hid (aQ (S s)=okL (aJ (S s))):=by
  have h1:(S s).length<=60:=by rw[<- bG];omega
  unfold Hid;rw[qA,ot hr];simp[hr,h1]
 have hq:=ff hr;have d60:decide ((60:Int)<s.size)=false:=by simp;omega
 clear hr
 go_enter Tryz.func22,Tryz.ntmps22
 go_wp2_with fail
 refine(GV _ (by omega) _).mono ?_;rintro e w1 ⟨v,rfl,hst,hB⟩;obtain⟨n,hn⟩:∃n,(aJ (S s)).length=n:=⟨_,rfl⟩
 have hn61:n<=61:=by have:=pJ (S s);rw[hn, <- bG]at this;omega
 obtain⟨ad,cp,rfl,hcp,hc⟩:=hst.shape hn;have HC:=Lib.hid hc;have HN:=Lib.hid hn;clear hst hn hc
 go_wp2
 go_loop [4] (λi=> ∃k:Nat,k<=n/\i= .int .i64 k/\yG (aJ (S s)) k) (λi=>n-(intOf i).toNat)
 case atStart=>exact⟨0,Nat.zero_le _,rfl,IM _⟩
 case round =>
  obtain⟨k,hk,rfl,hg⟩:=hrel;by_cases hlt:k<n
  . obtain⟨x,hx⟩:∃x,(aJ (S s))[k]? =some x:=⟨_,ai (by rw[HN.out];exact hlt)⟩
    obtain⟨B1,o1,ha1,hl1,hc1⟩:=HC.out k x hx;have hx60:(mk x).size<=140737488355328:=by
     rw[bG,S_mk];have:=kQ (S s) x (au hx);rw[<- bG]at this;omega
    subst ha1;have HX:=Lib.hid hx;clear hx;by_cases hl:bC x=true
    . have HG:=Lib.hid (yH hg HX.out (.inl hl));clear hg
      go_wp2_with (go_at_call 54;refine(ng _ hx60 _).mono ?_;rintro e w' ⟨rfl,rfl⟩;rw[S_mk,hl])
      go_round
      case rel=>exact⟨k+1,by omega,by go_num,HG.out⟩
      case measure=>simp[intOf];omega
    . have hl' :bC x=false:=by simpa using hl
      clear hl;by_cases hk0:k=0
      . subst hk0;have hc0:w1.cell? ⟨B1,o1,none⟩=some (.string (mk x)):=hc1;clear hc1;by_cases hs:x=[42]
        . have HG:=Lib.hid (yH hg HX.out (.inr ⟨rfl,hs⟩));have hq2:((mk x).toList==[42])=true:=by rw[ez,S_mk,hs];rfl
          clear hg hs
          go_wp2_with (go_at_call 54;refine(ng _ hx60 _).mono ?_;rintro e w' ⟨rfl,rfl⟩;rw[S_mk,hl'])
          go_round
          case rel=>exact⟨1,by omega,by go_num,HG.out⟩
          case measure=>simp[intOf];omega
        . have HB:=Lib.hid (GA HX.out hl' (λh=>hs h.2));have hq2:((mk x).toList==[42])=false:=by rw[ez,S_mk];simpa using hs
          clear hg hs
          go_wp2_with (go_at_call 54;refine(ng _ hx60 _).mono ?_;rintro e w' ⟨rfl,rfl⟩;rw[S_mk,hl'])
          go_ret
          rw[HV.out,HB.out];exact⟨rfl,hB⟩
      . have HB:=Lib.hid (GA HX.out hl' (λh=>hk0 h.1));have hk1:0<k:=by omega
        clear hg hk0
        go_wp2_with (go_at_call 54;refine(ng _ hx60 _).mono ?_;rintro e w' ⟨rfl,rfl⟩;rw[S_mk,hl'])
        go_ret
        rw[HV.out,HB.out];exact⟨rfl,hB⟩
  . obtain rfl:n=k:=by omega
    have HG:Hid (okL (aJ (S s))=decide (n<=8)):=by
     have:=Lk (l:=aJ (S s)) (by rw[HN.out];exact hg);rw[HN.out]at this;exact this
    clear hg;by_cases h8:n<=8
    . have d8:decide ((n:Int)<=8)=true:=by simp;omega
      have HR:Hid (aQ (S s)=true):=by unfold Hid;rw[HV.out,HG.out];simp[h8]
      go_wp2
      go_ret
      rw[HR.out];exact⟨rfl,hB⟩
    . have d8:decide ((n:Int)<=8)=false:=by simp;omega
      have HR:Hid (aQ (S s)=false):=by unfold Hid;rw[HV.out,HG.out];simp[h8]
      go_wp2
      go_ret
      rw[HR.out];exact⟨rfl,hB⟩
end Go.Proofs.YtodofogcincleaaGreatDoor
namespace NP
open Go Go.RowKit
theorem Bt(a b:Bs):Op.bytesLess a b=decide (Lib.compareBytes a b= -1):=by
 induction a generalizing b with
 |nil=>cases b <;> simp[Op.bytesLess,Lib.compareBytes]
 |cons x a ih =>
  cases b with
  |nil=>simp[Op.bytesLess,Lib.compareBytes]
  |cons y b =>
   unfold Op.bytesLess Lib.compareBytes;rw[ih b];by_cases h1:x<y
   . simp[h1]
   . by_cases h2:y<x
     . have:x≠y:=λe=>by subst e;exact absurd h2 (UInt8.lt_irrefl x)
       simp[h1,h2,this]
     . have:x=y:=UInt8.le_antisymm (UInt8.not_lt.1 h2) (UInt8.not_lt.1 h1);simp[this]
end NP
namespace Go.Proofs.YtodofogcincleaaGreatDoor
open Go.RowKit Go.Shelf NP
end Go.Proofs.YtodofogcincleaaGreatDoor
