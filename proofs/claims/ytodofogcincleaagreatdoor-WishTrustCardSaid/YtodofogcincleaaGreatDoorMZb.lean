/-
  Merged texts.
-/
import Derived.Test.YtodofogcincleaaGreatDoorMRb
import Derived.Deep.RegionHeld3
set_option linter.all false
set_option maxHeartbeats 1000000
namespace Go.Proofs.YtodofogcincleaaGreatDoor
open Go.RowKit Go.Shelf
theorem kU(x lo hi:Int)(w:World) :
 Calls Tryz.prog 80 #[.int .i64 x,.int .i64 lo,.int .i64 hi] w λe w' =>e= .returned (.bool (within x lo hi))/\w=w' :=by
 by_cases h1:lo<=x
 .by_cases h2:x<=hi
  .have HR:Hid (within x lo hi=true):=by simp[Hid,within,h1,h2]
   have d1:decide (lo<=x)=true:=by simpa using h1
   have d2:decide (x<=hi)=true:=by simpa using h2
   go_enter Tryz.func80,Tryz.ntmps80
   go_wp2
   go_ret
   rw[HR.out];exact⟨rfl,rfl⟩
  .have HR:Hid (within x lo hi=false):=by simp[Hid,within,h2]
   have d1:decide (lo<=x)=true:=by simpa using h1
   have d2:decide (x<=hi)=false:=by simpa using h2
   go_enter Tryz.func80,Tryz.ntmps80
   go_wp2
   go_ret
   rw[HR.out];exact⟨rfl,rfl⟩
 .have HR:Hid (within x lo hi=false):=by simp[Hid,within,h1]
  have d1:decide (lo<=x)=false:=by simpa using h1
  go_enter Tryz.func80,Tryz.ntmps80
  go_wp2
  go_ret
  rw[HR.out];exact⟨rfl,rfl⟩
theorem yY(s:ByteArray)(w:World) :
 Calls Tryz.prog 81 #[.string s] w λe w' =>e= .returned (.bool (lE (S s)))/\w=w' :=by
 have HP:Hid (Lib.hasPrefix s.data.toList (⟨#[42]⟩:ByteArray).data.toList=lE (S s)):=by
  unfold Hid Lib.hasPrefix lE;show List.isPrefixOf [42] (S s)=_
  cases S s with
  |nil=>rfl
  |cons c t=>simp only[List.isPrefixOf,List.head?_cons];rw[Bool.eq_iff_iff];simp;exact eq_comm
 go_enter Tryz.func81,Tryz.ntmps81
 go_wp2_with (go_at_call 95;refine(Tryz.strings_HasPrefix _ _ _).mono ?_;rintro e w' ⟨rfl,rfl⟩;rw[HP.out])
 go_ret
 exact⟨rfl,rfl⟩
theorem EL(a b:ByteArray):(Lib.compareBytes (S a) (S b)= -1/\Op.bytesLess a.toList b.toList=true)\/(Lib.compareBytes (S a) (S b)=0/\Op.bytesLess a.toList b.toList=false/\(a.toList==b.toList)=true) \/
 (Lib.compareBytes (S a) (S b)=1/\Op.bytesLess a.toList b.toList=false/\(a.toList==b.toList)=false):=by
 rw[fB,fB,Du];rcases du.range (S a) (S b)with h|h|h
 .exact .inl ⟨h,by rw[h];rfl⟩
 .exact .inr (.inl ⟨h,by rw[h];rfl,by rw[(du.zero _ _).1 h];simp⟩)
 .refine .inr (.inr ⟨h,by rw[h];rfl,?_⟩);have:S a≠S b:=λe=>by rw[(du.zero _ _).2 e]at h;cases h
  simpa using this
theorem zS(a b:ByteArray)(w:World) :
 Calls Tryz.prog 142 #[.string a,.string b] w λe w' =>e= .returned (.int .i64 (Lib.compareBytes (S a) (S b)))/\w=w' :=by
 have ha:(a.toList==a.toList)=true:=by simp
 have hb:(b.toList==b.toList)=true:=by simp
 rcases EL a b with ⟨h,q⟩|⟨h,q,q2⟩|⟨h,q,q2⟩
 all_goals
  have HR:=Lib.hid h;clear h
  go_enter Tryz.func142,Tryz.ntmps142
  go_wp2
  go_ret
  rw[HR.out];exact⟨rfl,rfl⟩
theorem DI(x lo hi:Int)(w:World) :
 Calls Tryz.prog 202 #[.int .u8 x,.int .u8 lo,.int .u8 hi] w λe w' =>e= .returned (.bool (within x lo hi))/\w=w' :=by
 go_enter Tryz.func202,Tryz.ntmps202
 go_wp2
 all_goals go_ret
 .rename_i h;have h' :decide (lo<=x)=true:=by simpa using h
  rw[within,h'];exact⟨rfl,rfl⟩
 .rename_i h;have h' :decide (lo<=x)=false:=by simpa using h
  rw[within,h'];exact⟨rfl,rfl⟩
theorem PR(c:UInt8):iM c=(within c.toNat 97 122||within c.toNat 48 57||((c.toNat:Int)==32)):=by
 have h:(c==32)=((c.toNat:Int)==32):=by
  rw[Bool.eq_iff_iff];simp only[beq_iff_eq];constructor
  .intro h;subst h;rfl
  .intro h;exact UInt8.toNat_inj.1 (by simp;omega)
 have e:∀lo hi:UInt8,(decide (lo<=c)&&decide (c<=hi))=within c.toNat lo.toNat hi.toNat:=λlo hi=>by
  simp only[within,UInt8.le_iff_toNat_le,Int.ofNat_le]
 rw[iM,h,e,e];rfl
theorem PS(s:ByteArray)(h:within s.size 1 40=false):iN (S s)=false:=by
 have e:=cr s;simp only[within,Bool.and_eq_false_iff,decide_eq_false_iff_not]at h;rcases h with h|h
 .have:¬1<=(S s).length:=by omega
  simp[iN,this]
 .have:¬(S s).length<=40:=by omega
  simp[iN,this]
theorem KF(s:ByteArray)(h:0<s.size)(hc:((s[0].toNat:Int)==32)=true):iN (S s)=false:=by
 have hg:=mO s 0 h;have:s[0]=32:=UInt8.toNat_inj.1 (by simp at hc ⊢;omega);rw[this]at hg;have:(S s).head? =some 32:=by rw[List.head?_eq_getElem?];exact hg
 simp[iN,this]
theorem Nf(s:ByteArray)(h:s.size-1<s.size)(hc:((s[s.size-1].toNat:Int)==32)=true):iN (S s)=false:=by
 have hg:=mO s (s.size-1) h;have:s[s.size-1]=32:=UInt8.toNat_inj.1 (by simp at hc ⊢;omega);rw[this]at hg;have:(S s).getLast? =some 32:=by rw[List.getLast?_eq_getElem?, <- cr];exact hg
 simp[iN,this]
theorem Nd(s:ByteArray)(k:Nat)(h:k<s.size)(hc:iM s[k]=false):iN (S s)=false:=by
 have hm:s[k]∈S s:=aD (mO s k h);have:(S s).all iM=false:=List.all_eq_false.2 ⟨_,hm,by simp[hc]⟩;simp[iN,this]
theorem PQ(s:ByteArray)(hw:within s.size 1 40=true)(h0:0<s.size)(hl:s.size-1<s.size)(h3:((s[0].toNat:Int)==32)=false)(h4:((s[s.size-1].toNat:Int)==32)=false)
 (k:Nat) (hk:¬k<s.size) (ha:((S s).take k).all iM=true):iN (S s)=true:=by
 simp only[within,aU,decide_eq_true_eq]at hw;have e1:1<=(S s).length:=by rw[<- cr];omega
 have e2:(S s).length<=40:=by rw[<- cr];omega
 rw[List.take_of_length_le (by rw[<- cr];omega)]at ha;have e3:(S s).head? ≠some 32:=by
  rw[List.head?_eq_getElem?,mO s 0 h0];intro e;have:=Option.some.inj e;rw[this]at h3;cases h3
 have e4:(S s).getLast? ≠some 32:=by
  rw[List.getLast?_eq_getElem?, <- cr,mO s _ hl];intro e;have:=Option.some.inj e;rw[this]at h4;cases h4
 simp only[iN,e1,e2,ha,decide_true,iS,iG,aU,bne_iff_ne];exact⟨e3,e4⟩
theorem Co(s:ByteArray)(k:Nat)(h:k<s.size)(ha:((S s).take k).all iM=true)(hc:iM s[k]=true):((S s).take (k+1)).all iM=true:=by
 have hk:k<(S s).length:=by rw[<- cr];exact h
 have hg:=mO s k h;rw[au hk]at hg;have hf:iM ((S s)[k])=true:=by rw[Option.some.inj hg];exact hc
 rw[List.take_succ_eq_append_getElem hk,List.all_append,ha];simp[hf]
theorem FH(s:ByteArray)(w:World) :
 Calls Tryz.prog 141 #[.string s] w λe w' =>e= .returned (.bool (iN (S s)))/\w=w' :=by
 cases hw:within s.size 1 40 with
 |false =>
  have HR:=Lib.hid (PS s hw)
  go_enter Tryz.func141,Tryz.ntmps141
  go_wp2_with (go_at_call 80;refine(kU _ _ _ _).mono ?_;rintro e w' ⟨rfl,rfl⟩;rw[hw])
  go_ret
  rw[HR.out];exact⟨rfl,rfl⟩
 |true =>
  have h0:0<s.size:=by simp[within]at hw;omega
  have hh:s.size<=40:=by simp[within]at hw;omega
  have hl:s.size-1<s.size:=by omega
  cases h3:((s[0].toNat:Int)==32)with
  |true =>
   have HR:=Lib.hid (KF s h0 h3)
   go_enter Tryz.func141,Tryz.ntmps141
   go_wp2_with (go_at_call 80;refine(kU _ _ _ _).mono ?_;rintro e w' ⟨rfl,rfl⟩;rw[hw])
   go_ret
   rw[HR.out];exact⟨rfl,rfl⟩
  |false =>
  cases h4:((s[s.size-1].toNat:Int)==32)with
  |true =>
   have HR:=Lib.hid (Nf s hl h4)
   go_enter Tryz.func141,Tryz.ntmps141
   go_wp2_with (go_at_call 80;refine(kU _ _ _ _).mono ?_;rintro e w' ⟨rfl,rfl⟩;rw[hw])
   go_ret
   rw[HR.out];exact⟨rfl,rfl⟩
  |false =>
   have HR:=Lib.hid (PQ s hw h0 hl h3 h4)
   go_enter Tryz.func141,Tryz.ntmps141
   go_wp2_with (go_at_call 80;refine(kU _ _ _ _).mono ?_;rintro e w' ⟨rfl,rfl⟩;rw[hw])
   go_loop [24] (λi=> ∃k:Nat,k<=s.size/\i= .int .i64 k/\Hid (((S s).take k).all iM=true)) (λi=>s.size-(intOf i).toNat)
   case atStart=>exact⟨0,Nat.zero_le _,rfl,rfl⟩
   case round =>
    obtain⟨k,hk,rfl,ha⟩:=hrel;by_cases hd:k<s.size
    .have HF:=Lib.hid (PR s[k]);have HY:=Lib.hid (λhc=>Co s k hd ha.out hc);have HN:=Lib.hid (Nd s k hd);clear h3 h4 hw;cases c1:within s[k].toNat 97 122 <;> cases c2:within s[k].toNat 48 57 <;> cases c3:((s[k].toNat:Int)==32)
     all_goals
      have c4:((s[k].toNat:Int) != 32)= !((s[k].toNat:Int)==32):=rfl;rw[c3]at c4;have hv:=HF.out;rw[c1,c2,c3]at hv;simp only[ON,Ds,OO,ka,sd,wY]at hv c4;have HV:=Lib.hid hv;clear hv HF
      go_wp2_with (go_at_call 202;refine(DI _ _ _ _).mono ?_;rintro e w' ⟨rfl,rfl⟩;first|rw[c1]|rw[c2])
      first
       |(go_ret;rw[HN.out HV.out];exact⟨rfl,rfl⟩)
       |exact⟨⟨k+1,by omega,by go_num,HY.out HV.out⟩,by simp[intOf];omega⟩
    .go_wp2
     go_ret
     rw[HR.out k hd ha.out];exact⟨rfl,rfl⟩
end Go.Proofs.YtodofogcincleaaGreatDoor
