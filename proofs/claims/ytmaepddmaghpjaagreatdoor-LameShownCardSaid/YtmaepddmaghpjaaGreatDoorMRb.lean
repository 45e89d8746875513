/-
  Merged texts.
-/
import Derived.Test.YtmaepddmaghpjaaGreatDoorRaM
import Derived.Test.YtmaepddmaghpjaaGreatDoorWoM
import Derived.Maps.AppendAt
import Derived.Laws.Concat
set_option linter.all false
namespace NP
open Go Go.RowKit
theorem vq(a:Bs):aH (a++[46])=aH a++[[]]:=by
 have:=iC a [];simpa [aH] using this
theorem sd(a:Bs)(c:UInt8)(hc:c≠46):∃p x,aH a=p++[x]/\aH (a++[c])=p++[x++[c]]:=by
 induction a with
 |nil=>exact⟨[],[],rfl,by simp[aH,hc]⟩
 |cons d a ih =>
  obtain⟨p,x,h1,h2⟩:=ih;by_cases hd:d=46
  . exact⟨[]::p,x,by simp[aH,hd,h1],by simp[aH,hd,h2]⟩
  . cases p with
    |nil =>
     exact⟨[],d::x,by rw[aH,if_neg hd,h1];rfl,by rw[List.cons_append,aH,if_neg hd,h2];rfl⟩
    |cons y p =>
     exact⟨(d::y)::p,x,by rw[aH,if_neg hd,h1];rfl,by rw[List.cons_append,aH,if_neg hd,h2];rfl⟩
theorem gY(a:Bs):(aH a).length<=a.length+1:=by
 induction a with
 |nil=>simp[aH]
 |cons c a ih =>
  unfold aH;split
  . simp;omega
  . cases h:aH a with
    |nil=>simp
    |cons x t=>rw[h]at ih;simp at ih ⊢;omega
theorem nk(a x:Bs)(h:x∈aH a):x.length<=a.length:=by
 induction a generalizing x with
 |nil=>simp[aH]at h;subst h;simp
 |cons c a ih =>
  unfold aH at h;split at h
  . rcases List.mem_cons.1 h with rfl|h
    . simp
    . have:=ih x h;simp;omega
  . cases hs:aH a with
    |nil=>rw[hs]at h;simp at h;subst h;simp
    |cons y t =>
     rw[hs]at h;rcases List.mem_cons.1 h with rfl|h
     . have:=ih y (by rw[hs];simp);simp;omega
     . have:=ih x (by rw[hs];exact aK _ h);simp;omega
theorem wa(s:ByteArray)(k:Nat)(h:k<s.size):(S s).take (k+1)=(S s).take k++[s[k]]:=by
 have hk:k<(S s).length:=by rw[<- bn];exact h
 have hg:=lP s k h;rw[ah hk]at hg;rw[List.take_succ_eq_append_getElem hk,Option.some.inj hg]
theorem PW(s:ByteArray)(k:Nat)(h:k<s.size):S (s.extract k (k+1))=[s[k]]:=by
 rw[iW];have hk:k<(S s).length:=by rw[<- bn];exact h
 have hg:=lP s k h;rw[ah hk]at hg;rw[List.drop_eq_getElem_cons hk,Option.some.inj hg];simp
theorem Ng(a b:ByteArray):S (a++b)=S a++S b:=by
 unfold S;simp
end NP
namespace Go.Proofs.YtmaepddmaghpjaaGreatDoor
open Go.RowKit Go.Shelf NP
theorem OC:(Tryz.prog.info? 9).map (λi=>(i.zero,i.size,i.bytes))=some (some (.string ⟨#[]⟩),1,16):=by kernel_rfl
set_option maxRecDepth 100000 in
set_option maxHeartbeats 1000000 in
theorem Fs(s:ByteArray)(hs:s.size<=60)(w:World) :
 Calls Tryz.prog 137 #[.string s] w (λe w' => ∃v,e= .returned v/\w'.ownsRow w.heap.size 9 1 v (aH (S s)).length (strCells (aH (S s)))/\Below w.heap.size w w'):=by
 obtain⟨i0,hi,hz0,hz1,hz2⟩:=info_parts OC;have HI:=Lib.hid hi;have HZ0:=Lib.hid hz0;have HZ1:=Lib.hid hz1;have HZ2:=Lib.hid hz2;clear hi hz0 hz1 hz2
 go_enter Tryz.func137,Tryz.ntmps137
 go_wp2
 go_loopw [3,4] (λv i wr=> ∃(k m g cap:Nat),k<=s.size/\i= .int .i64 k/\v= .slice (some ⟨g,0,none⟩) (m+1) cap/\Hid (wr.ownsRow w.heap.size 9 1 (.slice (some ⟨g,0,none⟩) (m+1) cap) (m+1) (strCells (aH ((S s).take k))))/\Below w.heap.size w wr) (λ_ i _=>s.size-(intOf i).toNat)
 case atStart=>exact⟨0,0,w.heap.size,1,Nat.zero_le _,rfl,rfl,OY w _ _ _ (Nat.le_refl _),(Below.refl _ w).alloc (Nat.le_refl _) _⟩
 case round =>
  obtain⟨k,m,g,cap,hk,rfl,rfl,hown,hbw⟩:=hrel;have hlen:(aH ((S s).take k)).length=m+1:=by have:=hown.out.1;simpa [strCells] using this
  have hm:m<=60:=by
   have:=gY ((S s).take k);rw[hlen,List.length_take, <- bn]at this;omega
  by_cases hlt:k<s.size
  . by_cases hd:(s[k].toNat:Int)=46
    . have b46:((s[k].toNat:Int)==46)=true:=by simpa using hd
      have hc46:s[k]=46:=UInt8.toNat_inj.1 (by simp;omega);have HSP:Hid (aH ((S s).take (k+1))=aH ((S s).take k)++[[]]):=by unfold Hid;rw[wa s k hlt,hc46,vq]
      have hbg:w.heap.size<=g:=by
       obtain⟨u,hu⟩:∃u,(strCells (aH ((S s).take k)))[0]? =some u:=⟨_,ah (by simp[strCells,hlen])⟩
       exact(By hown.out hu).2.2.1
      have own1:=hown.out.alloc (.cells #[.string ⟨#[]⟩] 9);have C1:Hid ((m+1)+1<=maxLen):=by unfold Hid maxLen;omega
      have C2:Hid (((m+1)+1)*16<=140737488355328):=by unfold Hid;omega
      have C3:Hid (w.heap.size<=(wr.alloc (.cells #[.string ⟨#[]⟩] 9)).heap.size):=by unfold Hid;have:=hbw.size;simp;omega
      have C4:Hid (∀(j:Nat) u,([.string ⟨#[]⟩]:List Value)[j]? =some u->(wr.alloc (.cells #[.string ⟨#[]⟩] 9)).cell? (Addr.add ⟨wr.heap.size,0,none⟩ j)=some u):=cell_one_new _ _ _;clear hd hc46
      go_wp2_with (at_builtin;refine wpList_append_own _ rfl _ _ 73 rfl w.heap.size 9 i0 (.string ⟨#[]⟩) 1 16 Tryz.underlying73 HI.out HZ0.out HZ1.out HZ2.out rfl (by decide) _ (m+1) _ rfl own1 ⟨wr.heap.size,0,none⟩ 1 1 [.string ⟨#[]⟩] rfl rfl C4.out (by simp[Value.oneCell']) C1.out C2.out C3.out ?_;intro v' w1 hown1 hgrow _)
      obtain⟨g',cap',rfl⟩:=ownsRow_succ hown1;refine⟨⟨k+1,m+1,g',cap',by omega,by go_num,rfl,?_,?_⟩,by simp[intOf];omega⟩
      . rw[HSP.out];unfold Hid strCells;rw[List.map_append];exact hown1
      . refine(hbw.alloc hbw.size _).grown hgrow C3.out (λj e=>?_);cases e;exact hbg
    . have b46:((s[k].toNat:Int)==46)=false:=by simpa using hd
      obtain⟨p,x,hp1,hp2⟩:=sd ((S s).take k) s[k] (λe=>hd (by rw[e];rfl));have hpl:p.length=m:=by rw[hp1]at hlen;simp at hlen;omega
      have hj:(strCells (aH ((S s).take k)))[m]? =some (.string (mk x)):=by
       rw[hp1, <- hpl];simp[strCells]
      obtain⟨hcl,hfz,hbg,hgl⟩:=By hown.out hj;have HST:=Lib.hid (hown.out.stored m (.string (mk (x++[s[k]]))));have HSP:Hid ((strCells (aH ((S s).take k))).set m (.string (mk (x++[s[k]])))=strCells (aH ((S s).take (k+1)))):=by
       unfold Hid;rw[wa s k hlt,hp1,hp2, <- hpl];simp[strCells]
      have HX:Hid (mk x++s.extract k (k+1)=mk (x++[s[k]])):=by
       apply vC;rw[Ng,S_mk,S_mk,PW s k hlt]
      have hx60:x.length<=60:=by
       have:=nk ((S s).take k) x (by rw[hp1];simp);rw[List.length_take, <- bn]at this;omega
      clear hd hp1 hp2 hpl hj hown
      go_wp2
      have hw1:IntKind.i64.wrap (m:Int)=m:=IntWalk.i64_in _ (by omega);have hw2:IntKind.i64.wrap ((k:Int)+1)=(k:Int)+1:=IntWalk.i64_in _ (by omega);have hw3:(0:Int)<=(k:Int)+1:=by omega
      have hw4:((k:Int)+1).toNat=k+1:=by omega
      have hw5:(m:Int)<(m:Int)+1:=by omega
      have hw6:(k:Int)+1<=(s.size:Int):=by omega
      have hw7:k+1<=s.size:=by omega
      have hadd:∀w,(Op.stringOp .add (mk x) (s.extract k (k+1))).run Tryz.prog w= .ok (.string (mk (x++[s[k]]))) w:=by
       intro w;rw[run_string_add_sum w _ _ (by rw[bn,bn,S_mk,PW s k hlt];simp;omega),HX.out]
      have hw8:(k:Int)<=(k:Int)+1:=by omega
      go_still_tail 17,(by kernel_rfl)
      clear hadd;clear hw1 hw2 hw3 hw4 hw5 hw6 hw8;rw[show({heap:=wr.heap,tape:=wr.tape,drawn:=wr.drawn+1,os:=wr.os,output:=wr.output}:World)=wr.drew from rfl]
      go_wp2
      refine⟨⟨k+1,m,g,cap,by omega,by go_num,rfl,?_,?_⟩,by simp[intOf];omega⟩
      . have h1:=HST.out.1;rw[HSP.out]at h1;exact h1
      . exact(hbw.setCell (p:=⟨g,m,none⟩) hbg _).drew
  . have HT:Hid ((S s).take k=S s):=List.take_of_length_le (by rw[<- bn];omega);clear hlen
    go_wp2
    go_ret
    refine⟨_,rfl,?_,hbw⟩;have h1:=hown.out;rw[HT.out]at h1;have h2:(aH (S s)).length=m+1:=by have:=h1.1;simpa [strCells] using this
    rw[h2];exact h1
end Go.Proofs.YtmaepddmaghpjaaGreatDoor
namespace NP
open Go Go.RowKit
def zj(l:List Bs)(k:Nat):Prop:= ∀j x,j<k->l[j]? =some x->bf x=true\/(j=0/\x=[42])
theorem JK(l:List Bs):zj l 0:=λj _ h _=>absurd h (Nat.not_lt_zero j)
theorem zk{l:List Bs}{k:Nat}{x:Bs}(h:zj l k)(hx:l[k]? =some x)(hg:bf x=true\/(k=0/\x=[42])):zj l (k+1):=by
 intro j y hj hy;by_cases e:j=k
 . subst e;rw[hx]at hy;cases hy;exact hg
 . exact h j y (by omega) hy
theorem He{l:List Bs}{k:Nat}{x:Bs}(hx:l[k]? =some x)(h1:bf x=false)(h2:¬(k=0/\x=[42])):okL l=false:=by
 rw[<- Bool.not_eq_true];intro e;cases l with
 |nil=>simp at hx
 |cons y t =>
  simp only[okL,ay,Bool.or_eq_true,beq_iff_eq]at e;cases k with
  |zero =>
   simp at hx;subst hx;rcases e.2.1 with e|e
   . exact h2 ⟨rfl,e⟩
   . rw[h1]at e;cases e
  |succ k =>
   simp at hx;have:=av.1 e.2.2 x (ao hx);rw[h1]at this;cases this
theorem Mk{l:List Bs}(h:zj l l.length):okL l=decide (l.length<=8):=by
 unfold okL;cases l with
 |nil=>rfl
 |cons y t =>
  have h1:(y==[42]||bf y)=true:=by
   rcases h 0 y (by simp) (by simp)with h|h
   . simp[h]
   . simp[h.2]
  have h2:t.all bf=true:=av.2 λx hx=>by
   obtain⟨j,hj,e⟩:=List.getElem_of_mem hx;rcases h (j+1) x (by simp;omega) (by simp[<- e])with h|h
   . exact h
   . omega
  simp[h1,h2]
theorem BW{s:Bs}(h:aq s=true):ff s=((bc s).head? ==some [42]):=by
 by_cases h0:s=[46]
 . subst h0;rfl
 . have hok:=oh h;rw[kT h0]at hok ⊢;have hj:=eI s;cases hs:aH s with
   |nil=>exact absurd hs (eS s)
   |cons x t =>
    rw[hs]at hok hj;have hx:x≠[]:=LZ hok (by simp);have hhead:s.head? =x.head? :=by
     rw[<- hj];cases t with
     |nil=>rfl
     |cons y t=>rw[cw];cases x with
      |nil=>exact absurd rfl hx
      |cons c x=>rfl
    unfold ff;rw[hhead,Bool.eq_iff_iff,beq_iff_eq,beq_iff_eq];constructor
    . intro h;rcases vQ hok (x:=x) (by simp)with e|e
      . rw[e];rfl
      . cases x with
        |nil=>cases h
        |cons c x =>
         simp at h;subst h;have:dg 42=true:=av.1 (by unfold bf at e;simp only[ay]at e;exact e.2) 42 (by simp);exact absurd this (by decide)
    . intro h;simp at h;rw[h];rfl
theorem Kc(l m:List Bs)(d:Nat)(hd:l.length=d+m.length):m <:+ l ↔ ∀j x,m[j]? =some x->l[d+j]? =some x:=by
 constructor
 . rintro⟨p,rfl⟩ j x hx;have:p.length=d:=by simp at hd;omega
   rw[<- this,bW (by omega)];simpa using hx
 . intro h;refine⟨l.take d,?_⟩;have:l.drop d=m:=by
    apply List.ext_getElem?;intro j;rw[List.getElem?_drop];cases hx:m[j]? with
    |none =>
     rw[List.getElem?_eq_none];have:=List.getElem?_eq_none_iff.1 hx;omega
    |some x=>exact h j x hx
   conv=>rhs;rw[<- List.take_append_drop d l,this]
end NP
namespace Go.Proofs.YtmaepddmaghpjaaGreatDoor
open Go.RowKit Go.Shelf NP
theorem yj(s:ByteArray)(hs:s.size<=60)(w:World) :
 Calls Tryz.prog 137 #[.string s] w (λe w' => ∃v,e= .returned v/\Strs w' v (aH (S s))/\Below w.heap.size w w') :=
 (Fs s hs w).mono λ_ _ ⟨v,he,ho,hb⟩=>⟨v,he,EU ho rfl,hb⟩
def Nj(ls:List Bs)(w:World)(e:Ending)(w' :World):Prop:= ∃v,e= .returned v/\Strs w' v ls/\Below w.heap.size w w'
set_option maxHeartbeats 400000 in
theorem lk(s:ByteArray)(hs:s.size<=60)(w:World) :
 Calls Tryz.prog 97 #[.string s] w (Nj (bc (S s)) w):=by
 by_cases h0:S s=[46]
 . have HL:Hid (bc (S s)=[]):=OK.2 h0;have hq:=iv h0;clear h0
   go_enter Tryz.func97,Tryz.ntmps97
   go_wp2
   go_ret
   exact⟨_,rfl,.inl ⟨_,_,rfl,HL.out⟩,Below.refl _ _⟩
 . have HL:Hid (bc (S s)=aH (S s)):=kT h0;have hq:=eQ h0;clear h0
   go_enter Tryz.func97,Tryz.ntmps97
   go_wp2_with (go_at_call 137;refine(yj _ (by omega) _).mono ?_;rintro e w' ⟨v,rfl,hst,hb⟩)
   go_ret
   refine⟨v,rfl,?_,hb⟩;rw[HL.out];exact hst
set_option maxRecDepth 100000 in
set_option maxHeartbeats 1000000 in
theorem pn(s:ByteArray)(w:World) :
 Calls Tryz.prog 98 #[.string s] w λe w' =>e= .returned (.bool (aq (S s)))/\Below w.heap.size w w' :=by
 by_cases hr:S s=[46]
 . have HV:=Lib.hid (zH s hr);have hq:=iv hr;clear hr
   go_enter Tryz.func98,Tryz.ntmps98
   go_wp2
   go_ret
   rw[HV.out];exact⟨rfl,Below.refl _ _⟩
 by_cases h60:60<s.size
 . have HV:=Lib.hid (zG s hr h60);have hq:=eQ hr;clear hr
   go_enter Tryz.func98,Tryz.ntmps98
   go_wp2
   go_ret
   rw[HV.out];exact⟨rfl,Below.refl _ _⟩
 have HV:Hid (aq (S s)=okL (aH (S s))):=by
  have h1:(S s).length<=60:=by rw[<- bn];omega
  unfold Hid;rw[oe,kT hr];simp[hr,h1]
 have hq:=eQ hr;have d60:decide ((60:Int)<s.size)=false:=by simp;omega
 clear hr
 go_enter Tryz.func98,Tryz.ntmps98
 go_wp2_with fail
 refine(yj _ (by omega) _).mono ?_;rintro e w1 ⟨v,rfl,hst,hB⟩;obtain⟨n,hn⟩:∃n,(aH (S s)).length=n:=⟨_,rfl⟩
 have hn61:n<=61:=by have:=gY (S s);rw[hn, <- bn]at this;omega
 obtain⟨ad,cp,rfl,hcp,hc⟩:=hst.shape hn;have HC:=Lib.hid hc;have HN:=Lib.hid hn;clear hst hn hc
 go_wp2
 go_loop [4] (λi=> ∃k:Nat,k<=n/\i= .int .i64 k/\zj (aH (S s)) k) (λi=>n-(intOf i).toNat)
 case atStart=>exact⟨0,Nat.zero_le _,rfl,JK _⟩
 case round =>
  obtain⟨k,hk,rfl,hg⟩:=hrel;by_cases hlt:k<n
  . obtain⟨x,hx⟩:∃x,(aH (S s))[k]? =some x:=⟨_,ah (by rw[HN.out];exact hlt)⟩
    obtain⟨B1,o1,ha1,hl1,hc1⟩:=HC.out k x hx;have hx60:(mk x).size<=140737488355328:=by
     rw[bn,S_mk];have:=nk (S s) x (ao hx);rw[<- bn]at this;omega
    subst ha1;have HX:=Lib.hid hx;clear hx;by_cases hl:bf x=true
    . have HG:=Lib.hid (zk hg HX.out (.inl hl));clear hg
      go_wp2_with (go_at_call 138;refine(nu _ hx60 _).mono ?_;rintro e w' ⟨rfl,rfl⟩;rw[S_mk,hl])
      go_round
      case rel=>exact⟨k+1,by omega,by go_num,HG.out⟩
      case measure=>simp[intOf];omega
    . have hl' :bf x=false:=by simpa using hl
      clear hl;by_cases hk0:k=0
      . subst hk0;have hc0:w1.cell? ⟨B1,o1,none⟩=some (.string (mk x)):=hc1;clear hc1;by_cases hs:x=[42]
        . have HG:=Lib.hid (zk hg HX.out (.inr ⟨rfl,hs⟩));have hq2:((mk x).toList==[42])=true:=by rw[cN,S_mk,hs];rfl
          clear hg hs
          go_wp2_with (go_at_call 138;refine(nu _ hx60 _).mono ?_;rintro e w' ⟨rfl,rfl⟩;rw[S_mk,hl'])
          go_round
          case rel=>exact⟨1,by omega,by go_num,HG.out⟩
          case measure=>simp[intOf];omega
        . have HB:=Lib.hid (He HX.out hl' (λh=>hs h.2));have hq2:((mk x).toList==[42])=false:=by rw[cN,S_mk];simpa using hs
          clear hg hs
          go_wp2_with (go_at_call 138;refine(nu _ hx60 _).mono ?_;rintro e w' ⟨rfl,rfl⟩;rw[S_mk,hl'])
          go_ret
          rw[HV.out,HB.out];exact⟨rfl,hB⟩
      . have HB:=Lib.hid (He HX.out hl' (λh=>hk0 h.1));have hk1:0<k:=by omega
        clear hg hk0
        go_wp2_with (go_at_call 138;refine(nu _ hx60 _).mono ?_;rintro e w' ⟨rfl,rfl⟩;rw[S_mk,hl'])
        go_ret
        rw[HV.out,HB.out];exact⟨rfl,hB⟩
  . obtain rfl:n=k:=by omega
    have HG:Hid (okL (aH (S s))=decide (n<=8)):=by
     have:=Mk (l:=aH (S s)) (by rw[HN.out];exact hg);rw[HN.out]at this;exact this
    clear hg;by_cases h8:n<=8
    . have d8:decide ((n:Int)<=8)=true:=by simp;omega
      have HR:Hid (aq (S s)=true):=by unfold Hid;rw[HV.out,HG.out];simp[h8]
      go_wp2
      go_ret
      rw[HR.out];exact⟨rfl,hB⟩
    . have d8:decide ((n:Int)<=8)=false:=by simp;omega
      have HR:Hid (aq (S s)=false):=by unfold Hid;rw[HV.out,HG.out];simp[h8]
      go_wp2
      go_ret
      rw[HR.out];exact⟨rfl,hB⟩
set_option maxHeartbeats 400000 in
theorem Fq(s:ByteArray)(hv:aq (S s)=true)(w:World) :
 Calls Tryz.prog 99 #[.string s] w λe w' =>e= .returned (.bool (ff (S s)))/\Below w.heap.size w w' :=by
 have HW:=Lib.hid (BW hv);have h60:=cU hv;rw[<- bn]at h60;clear hv
 go_enter Tryz.func99,Tryz.ntmps99
 go_wp2_with fail
 refine(lk _ (by omega) _).mono ?_;rintro e w1 ⟨v,rfl,hst,hB⟩;cases hl:bc (S s)with
 |nil =>
  rw[hl]at hst HW;rcases hst with ⟨a,c,rfl,_⟩|⟨B,off,cap,rfl,_,_,_⟩
  all_goals
   go_wp2
   go_ret
   rw[HW.out];exact⟨rfl,hB⟩
 |cons x t =>
  rw[hl]at hst HW;rcases hst with ⟨_,_,_,h⟩|⟨B,off,cap,rfl,hcap,hlt,hc⟩
  . cases h
  . have c0:w1.cell? ⟨B,off,none⟩=some (.string (mk x)):=hc 0 x rfl;clear hc;rw[List.length_cons]at hcap ⊢;have dpos:decide ((0:Int)<(t.length:Int)+1)=true:=by rw[decide_eq_true_eq];omega
    have hpos:(0:Int)<(t.length:Int)+1:=by omega
    by_cases hx:x=[42]
    . have hq:((mk x).toList==[42])=true:=by rw[cN,S_mk,hx];rfl
      have HR:Hid (ff (S s)=true):=by unfold Hid;rw[HW.out,hx];rfl
      clear hx hl
      go_wp2
      go_ret
      rw[HR.out];exact⟨rfl,hB⟩
    . have hq:((mk x).toList==[42])=false:=by rw[cN,S_mk];simpa using hx
      have HR:Hid (ff (S s)=false):=by unfold Hid;rw[HW.out];simpa using hx
      clear hx hl
      go_wp2
      go_ret
      rw[HR.out];exact⟨rfl,hB⟩
set_option maxRecDepth 100000 in
set_option maxHeartbeats 1000000 in
theorem Ku(s z:ByteArray)(hs:s.size<=60)(hz:z.size<=60)(w:World) :
 Calls Tryz.prog 96 #[.string s,.string z] w λe w' =>e= .returned (.bool (aD (S s) (S z)))/\Below w.heap.size w w' :=by
 go_enter Tryz.func96,Tryz.ntmps96
 go_wp2_with fail
 refine(lk _ (by omega) _).mono ?_;rintro e w1 ⟨v,rfl,hst,hB⟩
 go_wp2_with fail
 refine(lk _ (by omega) _).mono ?_;rintro e w2 ⟨u,rfl,hsu,hb'⟩;replace hst:=hst.below hb';replace hB:=kI hB hb';clear hb';have hl1:(bc (S s)).length<=61:=by
  unfold bc;split
  . simp
  . have:=gY (S s);rw[<- bn]at this;omega
 have hl2:(bc (S z)).length<=61:=by
  unfold bc;split
  . simp
  . have:=gY (S z);rw[<- bn]at this;omega
 have hU:aD (S s) (S z)=true ↔ bc (S z) <:+ bc (S s):=by unfold aD;exact List.isSuffixOf_iff_suffix
 generalize bc (S s)=l at *
 generalize bc (S z)=m at *
 obtain⟨nm,hnm⟩:∃n,m.length=n:=⟨_,rfl⟩
 by_cases hlen:l.length<m.length
 . have HR:Hid (aD (S s) (S z)=false):=by
    unfold Hid;rw[<- Bool.not_eq_true,hU];intro h;have:=h.length_le;omega
   obtain⟨nl,hnl⟩:∃n,l.length=n:=⟨_,rfl⟩
   obtain⟨a1,c1,rfl,_,_⟩:=hst.shape hnl;obtain⟨a2,c2,rfl,_,_⟩:=hsu.shape hnm;rw[hnl,hnm]at hlen;clear hst hsu hU hnl hnm hl1 hl2
   go_wp2
   go_ret
   rw[HR.out];exact⟨rfl,hB⟩
 . obtain⟨d,hd⟩:∃d,l.length=d+nm:=⟨l.length-nm,by omega⟩
   obtain⟨a1,c1,rfl,hcp1,hc1⟩:=hst.shape hd;obtain⟨a2,c2,rfl,hcp2,hc2⟩:=hsu.shape hnm;have HSF:=Lib.hid (Kc l m d (by omega));have HC1:=Lib.hid hc1;have HC2:=Lib.hid hc2;have HD:=Lib.hid hd;have HM:=Lib.hid hnm;have HU:=Lib.hid hU;have hb1:d+nm<=61:=by omega
   have d1:decide ((d:Int)+nm<nm)=false:=by simp;omega
   clear hst hsu hU hd hnm hl1 hl2 hlen hc1 hc2
   go_wp2
   go_loopw [7] (λi wr=> ∃k:Nat,k<=nm/\i= .int .i64 k/\Hid (∀j x,j<k->m[j]? =some x->l[d+j]? =some x)/\Below w2.heap.size w2 wr) (λi _=>nm-(intOf i).toNat)
   case atStart=>exact⟨0,Nat.zero_le _,rfl,λj _ h _=>absurd h (Nat.not_lt_zero j),Below.refl _ _⟩
   case round =>
    obtain⟨k,hk,rfl,hg,hbw⟩:=hrel;by_cases hlt:k<nm
    . obtain⟨x,hx⟩:∃x,m[k]? =some x:=⟨_,ah (by rw[HM.out];exact hlt)⟩
      obtain⟨y,hy⟩:∃y,l[d+k]? =some y:=⟨_,ah (by rw[HD.out];omega)⟩
      obtain⟨B1,o1,ha1,hl1,hc1⟩:=HC1.out (d+k) y hy;obtain⟨B2,o2,ha2,hl2,hc2⟩:=HC2.out k x hx;subst ha1;subst ha2;have g1:=(hbw.cell (p:=⟨B1,o1+(d+k),none⟩) hl1).trans hc1;have g2:=(hbw.cell (p:=⟨B2,o2+k,none⟩) hl2).trans hc2;have HX:=Lib.hid hx;have HY:=Lib.hid hy;clear hx hy hc1 hc2;have e1:IntKind.i64.wrap (d:Int)=d:=IntWalk.i64_in _ (by omega);have e2:IntKind.i64.wrap ((d:Int)+k)=(d:Int)+k:=IntWalk.i64_in _ (by omega);have e3:(0:Int)<=(d:Int)+k:=by omega
      have e4:((d:Int)+k).toNat=d+k:=by omega
      have e5:(d:Int)+k<(d:Int)+nm:=by omega
      have e6:(k:Int)<nm:=by omega
      by_cases hxy:y=x
      . have hq:((mk y).toList==(mk x).toList)=true:=by rw[hxy];simp
        have HXY:=Lib.hid hxy;clear hxy
        go_wp2
        go_quiet (fail)
        clear e1 e2 e3 e4 e5 e6
        go_wp2
        go_roundw
        case rel =>
         refine⟨k+1,by omega,by go_num,?_,below_drewN hbw nq⟩;intro j u hj hu;by_cases e:j=k
         . subst e;rw[HX.out]at hu;cases hu;rw[HY.out,HXY.out]
         . exact hg.out j u (by omega) hu
        case measure=>simp[intOf];omega
      . have hq:((mk y).toList==(mk x).toList)=false:=by rw[cN,cN,S_mk,S_mk];simpa using hxy
        have HR:Hid (aD (S s) (S z)=false):=by
         unfold Hid;rw[<- Bool.not_eq_true,HU.out,HSF.out];intro h;have:=h k x HX.out;rw[HY.out]at this;exact hxy (Option.some.inj this)
        clear hxy
        go_wp2
        go_quiet (fail)
        clear e1 e2 e3 e4 e5 e6
        go_wp2
        go_ret
        rw[HR.out];exact⟨rfl,below_drewN (kI hB hbw) nq⟩
    . have HR:Hid (aD (S s) (S z)=true):=by
       unfold Hid;rw[HU.out,HSF.out];intro j x hx;exact hg.out j x (by have:=(ar.1 hx).1;rw[HM.out]at this;omega) hx
      go_wp2
      go_ret
      rw[HR.out];exact⟨rfl,kI hB hbw⟩
end Go.Proofs.YtmaepddmaghpjaaGreatDoor
namespace NP
open Go Go.RowKit
theorem ou(a b:Bs):Op.bytesLess a b=decide (Lib.compareBytes a b= -1):=by
 induction a generalizing b with
 |nil=>cases b <;> simp[Op.bytesLess,Lib.compareBytes]
 |cons x a ih =>
  cases b with
  |nil=>simp[Op.bytesLess,Lib.compareBytes]
  |cons y b =>
   unfold Op.bytesLess Lib.compareBytes;rw[ih b];by_cases h1:x<y
   . simp[h1]
   . by_cases h2:y<x
     . have:x≠y:=λe=>by subst e;exact absurd h2 (UInt8.lt_irrefl x)
       simp[h1,h2,this]
     . have:x=y:=UInt8.le_antisymm (UInt8.not_lt.1 h2) (UInt8.not_lt.1 h1);simp[this]
theorem Hp{l:List Bs}{n k:Nat}(hn:l.length=n)(hk:k<n):l.reverse[k]? =l[n-(k+1)]? :=by
 rw[List.getElem?_reverse (by omega),hn]
 congr 1;omega
theorem KS{a b:List Bs}{x y:Bs}{k:Nat}(ha:a[k]? =some x)(hb:b[k]? =some y) :
 cmpL (a.drop k) (b.drop k)=if Lib.compareBytes x y=0 then cmpL (a.drop (k+1)) (b.drop (k+1))else Lib.compareBytes x y:=by
 obtain⟨h1,e1⟩:=ar.1 ha;obtain⟨h2,e2⟩:=ar.1 hb;rw[List.drop_eq_getElem_cons h1,List.drop_eq_getElem_cons h2,e1,e2];rfl
theorem NI{a b:List Bs}{k:Nat}(h:¬(k<a.length/\k<b.length))(ha:k<=a.length)(hb:k<=b.length) :
 cmpL (a.drop k) (b.drop k)=if a.length<b.length then -1 else if b.length<a.length then 1 else 0:=by
 by_cases h1:k<a.length
 . have e:b.drop k=[]:=List.drop_eq_nil_iff.2 (by omega);rw[e,List.drop_eq_getElem_cons h1,if_neg (by omega),if_pos (by omega)];rfl
 . have e:a.drop k=[]:=List.drop_eq_nil_iff.2 (by omega);by_cases h2:k<b.length
   . rw[e,List.drop_eq_getElem_cons h2,if_pos (by omega)];rfl
   . rw[e,List.drop_eq_nil_iff.2 (by omega),if_neg (by omega),if_neg (by omega)];rfl
end NP
namespace Go.Proofs.YtmaepddmaghpjaaGreatDoor
open Go.RowKit Go.Shelf NP
set_option maxRecDepth 100000 in
set_option maxHeartbeats 1000000 in
theorem tR(a b:ByteArray)(ha:a.size<=60)(hb:b.size<=60)(w:World) :
 Calls Tryz.prog 195 #[.string a,.string b] w λe w' =>e= .returned (.int .i64 (aI (S a) (S b)))/\Below w.heap.size w w' :=by
 go_enter Tryz.func195,Tryz.ntmps195
 go_wp2_with fail
 refine(lk _ (by omega) _).mono ?_;rintro e w1 ⟨v,rfl,hst,hB⟩
 go_wp2_with fail
 refine(lk _ (by omega) _).mono ?_;rintro e w2 ⟨u,rfl,hsu,hb'⟩;replace hst:=hst.below hb';replace hB:=kI hB hb';clear hb';have hl1:(bc (S a)).length<=61:=by
  unfold bc;split
  . simp
  . have:=gY (S a);rw[<- bn]at this;omega
 have hl2:(bc (S b)).length<=61:=by
  unfold bc;split
  . simp
  . have:=gY (S b);rw[<- bn]at this;omega
 have hC:aI (S a) (S b)=cmpL (bc (S a)).reverse (bc (S b)).reverse:=by unfold aI;rw[back_eq,back_eq]
 generalize bc (S a)=l at *
 generalize bc (S b)=m at *
 obtain⟨na,hna⟩:∃n,l.length=n:=⟨_,rfl⟩
 obtain⟨nb,hnb⟩:∃n,m.length=n:=⟨_,rfl⟩
 obtain⟨a1,c1,rfl,hcp1,hc1⟩:=hst.shape hna;obtain⟨a2,c2,rfl,hcp2,hc2⟩:=hsu.shape hnb;have HC1:=Lib.hid hc1;have HC2:=Lib.hid hc2;have HA:=Lib.hid hna;have HB:=Lib.hid hnb;have HC:=Lib.hid hC;rw[hna]at hl1;rw[hnb]at hl2;clear hst hsu hC hna hnb hc1 hc2
 go_wp2
 go_loop [7] (λi=> ∃k:Nat,k<=na/\k<=nb/\i= .int .i64 ((k:Int)+1)/\Hid (aI (S a) (S b)=cmpL (l.reverse.drop k) (m.reverse.drop k))) (λi=>na+1-(intOf i).toNat)
 case atStart=>exact⟨0,Nat.zero_le _,Nat.zero_le _,rfl,HC.out⟩
 case round =>
  obtain⟨k,hk1,hk2,rfl,hg⟩:=hrel;by_cases hlt:k<na/\k<nb
  . obtain⟨h1,h2⟩:=hlt;obtain⟨x,hx⟩:∃x,l[na-(k+1)]? =some x:=⟨_,ah (by rw[HA.out];omega)⟩
    obtain⟨y,hy⟩:∃y,m[nb-(k+1)]? =some y:=⟨_,ah (by rw[HB.out];omega)⟩
    obtain⟨B1,o1,ha1,hl1',hc1⟩:=HC1.out (na-(k+1)) x hx;obtain⟨B2,o2,ha2,hl2',hc2⟩:=HC2.out (nb-(k+1)) y hy;subst ha1;subst ha2;have hstep:=KS (a:=l.reverse) (b:=m.reverse) (x:=x) (y:=y) (k:=k) (by rw[Hp HA.out h1];exact hx) (by rw[Hp HB.out h2];exact hy);have hless:=ou x y;have heq:(x==y)=decide (Lib.compareBytes x y=0):=by rw[Bool.eq_iff_iff,beq_iff_eq,decide_eq_true_eq,bO.zero]
    have hr:=bO.range x y;have f1:k+1<=na:=h1;have f2:k+1<=nb:=h2;have d1:decide ((k:Int)+1<=na)=true:=by simp;omega
    have d2:decide ((k:Int)+1<=nb)=true:=by simp;omega
    have tx:(mk x).toList=x:=by rw[cN,S_mk]
    have ty:(mk y).toList=y:=by rw[cN,S_mk]
    clear hx hy h1 h2;rcases hr with hr|hr|hr
    . have q1:Op.bytesLess (mk x).toList (mk y).toList=true:=by rw[tx,ty,hless,hr];rfl
      have HR:Hid (aI (S a) (S b)= -1):=by unfold Hid;rw[hg.out,hstep,hr];rfl
      clear hstep hless heq hr tx ty hg
      go_wp2
      go_ret
      rw[HR.out];exact⟨rfl,hB⟩
    . have q1:Op.bytesLess (mk x).toList (mk y).toList=false:=by rw[tx,ty,hless,hr];rfl
      have q2:((mk x).toList==(mk y).toList)=true:=by rw[tx,ty,heq,hr];rfl
      have HR:Hid (aI (S a) (S b)=cmpL (l.reverse.drop (k+1)) (m.reverse.drop (k+1))):=by unfold Hid;rw[hg.out,hstep,hr];rfl
      clear hstep hless heq hr tx ty hg
      go_wp2
      go_round
      case rel=>exact⟨k+1,by omega,by omega,by go_num,HR.out⟩
      case measure=>simp[intOf];omega
    . have q1:Op.bytesLess (mk x).toList (mk y).toList=false:=by rw[tx,ty,hless,hr];rfl
      have q2:((mk x).toList==(mk y).toList)=false:=by rw[tx,ty,heq,hr];rfl
      have HR:Hid (aI (S a) (S b)=1):=by unfold Hid;rw[hg.out,hstep,hr];rfl
      clear hstep hless heq hr tx ty hg
      go_wp2
      go_ret
      rw[HR.out];exact⟨rfl,hB⟩
  . have HE:Hid (aI (S a) (S b)=if na<nb then -1 else if nb<na then 1 else 0):=by
     unfold Hid;rw[hg.out,NI (by rw[List.length_reverse,List.length_reverse,HA.out,HB.out];exact hlt) (by rw[List.length_reverse,HA.out];exact hk1) (by rw[List.length_reverse,HB.out];exact hk2),List.length_reverse,List.length_reverse,HA.out,HB.out]
    clear hg;rcases (by omega:(k<na/\nb<=k/\nb<na)\/(na<=k/\na<nb)\/(na<=k/\nb<=na/\na<=nb))with ⟨e1,e2,e3⟩|⟨e1,e2⟩|⟨e1,e2,e3⟩
    . have HR:Hid (aI (S a) (S b)=1):=by unfold Hid;rw[HE.out,if_neg (by omega),if_pos (by omega)]
      have d1:decide ((k:Int)+1<=na)=true:=by simp;omega
      have d2:decide ((k:Int)+1<=nb)=false:=by simp;omega
      clear hlt
      go_wp2
      go_ret
      rw[HR.out];exact⟨rfl,hB⟩
    . have HR:Hid (aI (S a) (S b)= -1):=by unfold Hid;rw[HE.out,if_pos (by omega)]
      have d1:decide ((k:Int)+1<=na)=false:=by simp;omega
      clear hlt
      go_wp2
      go_ret
      rw[HR.out];exact⟨rfl,hB⟩
    . have HR:Hid (aI (S a) (S b)=0):=by unfold Hid;rw[HE.out,if_neg (by omega),if_neg (by omega)]
      have d1:decide ((k:Int)+1<=na)=false:=by simp;omega
      clear hlt
      go_wp2
      go_ret
      rw[HR.out];exact⟨rfl,hB⟩
set_option maxHeartbeats 400000 in
theorem zO(a b:ByteArray)(va:aq (S a)=true)(vb:aq (S b)=true)(w:World) :
 Calls Tryz.prog 193 #[.string a,.string b] w λe w' =>e= .returned (.tuple #[.int .i64 (aI (S a) (S b)),.int .i64 0])/\Below w.heap.size w w' :=by
 have h1:=cU va;have h2:=cU vb;rw[<- bn]at h1 h2
 go_enter Tryz.func193,Tryz.ntmps193
 go_wp2_with fail
 refine(pn _ _).mono ?_;rintro e w1 ⟨rfl,hB⟩;rw[va]
 go_wp2_with fail
 refine(pn _ _).mono ?_;rintro e w2 ⟨rfl,hb'⟩;replace hB:=kI hB hb';clear hb';rw[vb]
 go_wp2_with (go_at_call 195;refine(tR _ _ (by omega) (by omega) _).mono ?_;rintro e w' ⟨rfl,hb'⟩;replace hB:=kI hB hb';clear hb')
 go_ret2
 exact⟨rfl,hB⟩
end Go.Proofs.YtmaepddmaghpjaaGreatDoor
