/-
  Merged texts.
-/
import Derived.Test.YtjojkakjmoefaaaGreatDoorMRb
import Derived.Deep.RegionHeld3
set_option linter.all false
set_option maxHeartbeats 1000000
namespace Go.Proofs.YtjojkakjmoefaaaGreatDoor
open Go.RowKit Go.Shelf
def mF(x lo hi:Int)(w:World) :
 Calls Tryz.prog 151 #[.int .i64 x,.int .i64 lo,.int .i64 hi] w λe w' =>e= .returned (.bool<|within x lo hi)/\w=w' :=by
 by_cases h1:lo<=x
 .by_cases h2:x<=hi
  .have HR:Hid<|within x lo hi=true:=by simp[Hid,within,h1,h2]
   have d1:decide (lo<=x)=true:=by simpa using h1
   have d2:decide (x<=hi)=true:=by simpa using h2
   go_enter Tryz.func151,Tryz.ntmps151
   go_wp2
   go_ret
   rw[HR.out];exact⟨rfl,rfl⟩
  .have HR:Hid<|within x lo hi=false:=by simp[Hid,within,h2]
   have d1:decide (lo<=x)=true:=by simpa using h1
   have d2:decide (x<=hi)=false:=by simpa using h2
   go_enter Tryz.func151,Tryz.ntmps151
   go_wp2
   go_ret
   rw[HR.out];exact⟨rfl,rfl⟩
 .have HR:Hid<|within x lo hi=false:=by simp[Hid,within,h1]
  have d1:decide (lo<=x)=false:=by simpa using h1
  go_enter Tryz.func151,Tryz.ntmps151
  go_wp2
  go_ret
  rw[HR.out];exact⟨rfl,rfl⟩
def Cw(s:ByteArray)(w:World) :
 Calls Tryz.prog 152 #[.string s] w λe w' =>e= .returned (.bool<|nc<|S s)/\w=w' :=by
 have HP:Hid<|Lib.hasPrefix s.data.toList (⟨#[42]⟩:ByteArray).data.toList=nc (S s):=by
  unfold Hid Lib.hasPrefix nc;show List.isPrefixOf [42] (S s)=_
  cases S s with
  |nil=>rfl
  |cons c t=>simp only[List.isPrefixOf,List.head?_cons];rw[Bool.eq_iff_iff];simp;exact eq_comm
 go_enter Tryz.func152,Tryz.ntmps152
 go_wp2_with (go_at_call 91;refine(Tryz.strings_HasPrefix _ _ _).mono ?_;rintro e w' ⟨rfl,rfl⟩;rw[HP.out])
 go_ret
 exact⟨rfl,rfl⟩
def JC(a b:ByteArray):(Lib.compareBytes (S a) (S b)= -1/\Op.bytesLess a.toList b.toList=true)\/(Lib.compareBytes (S a) (S b)=0/\Op.bytesLess a.toList b.toList=false/\(a.toList==b.toList)=true) \/
 (Lib.compareBytes (S a) (S b)=1/\Op.bytesLess a.toList b.toList=false/\(a.toList==b.toList)=false):=by
 rw[eU,eU,Ig];rcases dz.range (S a) (S b)with h|h|h
 .exact .inl ⟨h,by rw[h];rfl⟩
 .exact .inr<|.inl ⟨h,by rw[h];rfl,by rw[(dz.zero _ _).1 h];simp⟩
 .refine .inr<|.inr ⟨h,by rw[h];rfl,?_⟩;have:S a≠S b:=λe=>by rw[(dz.zero _ _).2 e]at h;cases h
  simpa using this
def Dj(a b:ByteArray)(w:World) :
 Calls Tryz.prog 127 #[.string a,.string b] w λe w' =>e= .returned (.int .i64<|Lib.compareBytes (S a)<|S b)/\w=w' :=by
 have ha:(a.toList==a.toList)=true:=by simp
 have hb:(b.toList==b.toList)=true:=by simp
 rcases JC a b with ⟨h,q⟩|⟨h,q,q2⟩|⟨h,q,q2⟩
 all_goals
  have HR:=Lib.hid h;clear h
  go_enter Tryz.func127,Tryz.ntmps127
  go_wp2
  go_ret
  rw[HR.out];exact⟨rfl,rfl⟩
def IA(x lo hi:Int)(w:World) :
 Calls Tryz.prog 221 #[.int .u8 x,.int .u8 lo,.int .u8 hi] w λe w' =>e= .returned (.bool<|within x lo hi)/\w=w' :=by
 go_enter Tryz.func221,Tryz.ntmps221
 go_wp2
 all_goals go_ret
 .rename_i h;have h' :decide (lo<=x)=true:=by simpa using h
  rw[within,h'];exact⟨rfl,rfl⟩
 .rename_i h;have h' :decide (lo<=x)=false:=by simpa using h
  rw[within,h'];exact⟨rfl,rfl⟩
def WO(c:UInt8):jR c=(within c.toNat 97 122||within c.toNat 48 57||((c.toNat:Int)==32)):=by
 have h:(c==32)=((c.toNat:Int)==32):=by
  rw[Bool.eq_iff_iff];simp only[beq_iff_eq];constructor
  .intro h;subst h;rfl
  .intro h;exact UInt8.toNat_inj.1 (by simp;omega)
 have e:∀D j:UInt8,(decide (D<=c)&&decide (c<=j))=within c.toNat D.toNat j.toNat:=λD j=>by
  simp only[within,UInt8.le_iff_toNat_le,Int.ofNat_le]
 rw[jR,h,e,e];rfl
def WQ(s:ByteArray)(h:within s.size 1 40=false):jS (S s)=false:=by
 have e:=bY s;simp only[within,Bool.and_eq_false_iff,decide_eq_false_iff_not]at h;rcases h with h|h
 .have:¬1<=(S s).length:=by omega
  simp[jS,this]
 .have:¬(S s).length<=40:=by omega
  simp[jS,this]
def QP(s:ByteArray)(h:0<s.size)(D:((s[0].toNat:Int)==32)=true):jS (S s)=false:=by
 have j:=oU s 0 h;have:s[0]=32:=UInt8.toNat_inj.1 (by simp at D ⊢;omega);rw[this]at j;have:(S s).head? =some 32:=by rw[List.head?_eq_getElem?];exact j
 simp[jS,this]
def TH(s:ByteArray)(h:s.size-1<s.size)(D:((s[s.size-1].toNat:Int)==32)=true):jS (S s)=false:=by
 have j:=oU s (s.size-1) h;have:s[s.size-1]=32:=UInt8.toNat_inj.1 (by simp at D ⊢;omega);rw[this]at j;have:(S s).getLast? =some 32:=by rw[List.getLast?_eq_getElem?, <- bY];exact j
 simp[jS,this]
def TG(s:ByteArray)(k:Nat)(h:k<s.size)(j:jR s[k]=false):jS (S s)=false:=by
 have D:s[k]∈S s:=aw<|oU s k h;have:(S s).all jR=false:=List.all_eq_false.2 ⟨_,D,by simp[j]⟩;simp[jS,this]
def WN(s:ByteArray)(T:within s.size 1 40=true)(h0:0<s.size)(N:s.size-1<s.size)(j:((s[0].toNat:Int)==32)=false)(D:((s[s.size-1].toNat:Int)==32)=false)
 (k:Nat) (U:¬k<s.size) (G:((S s).take k).all jR=true):jS (S s)=true:=by
 simp only[within,aK,decide_eq_true_eq]at T;have H:1<=(S s).length:=by rw[<- bY];omega
 have I:(S s).length<=40:=by rw[<- bY];omega
 rw[List.take_of_length_le<|by rw[<- bY];omega]at G;have J:(S s).head? ≠some 32:=by
  rw[List.head?_eq_getElem?,oU s 0 h0];intro e;have:=Option.some.inj e;rw[this]at j;cases j
 have K:(S s).getLast? ≠some 32:=by
  rw[List.getLast?_eq_getElem?, <- bY,oU s _ N];intro e;have:=Option.some.inj e;rw[this]at D;cases D
 simp only[jS,H,I,G,decide_true,gq,gF,aK,bne_iff_ne];exact⟨J,K⟩
def Gf(s:ByteArray)(k:Nat)(h:k<s.size)(H:((S s).take k).all jR=true)(I:jR s[k]=true):((S s).take<|k+1).all jR=true:=by
 have G:k<(S s).length:=by rw[<- bY];exact h
 have D:=oU s k h;rw[ao G]at D;have j:jR ((S s)[k])=true:=by rw[Option.some.inj D];exact I
 rw[List.take_succ_eq_append_getElem G,List.all_append,H];simp[j]
def Kz(s:ByteArray)(w:World) :
 Calls Tryz.prog 201 #[.string s] w λe w' =>e= .returned (.bool<|jS<|S s)/\w=w' :=by
 cases hw:within s.size 1 40 with
 |false =>
  have HR:=Lib.hid (WQ s hw)
  go_enter Tryz.func201,Tryz.ntmps201
  go_wp2_with (go_at_call 151;refine(mF _ _ _ _).mono ?_;rintro e w' ⟨rfl,rfl⟩;rw[hw])
  go_ret
  rw[HR.out];exact⟨rfl,rfl⟩
 |true =>
  have h0:0<s.size:=by simp[within]at hw;omega
  have hf:s.size<=40:=by simp[within]at hw;omega
  have hl:s.size-1<s.size:=by omega
  cases h3:((s[0].toNat:Int)==32)with
  |true =>
   have HR:=Lib.hid (QP s h0 h3)
   go_enter Tryz.func201,Tryz.ntmps201
   go_wp2_with (go_at_call 151;refine(mF _ _ _ _).mono ?_;rintro e w' ⟨rfl,rfl⟩;rw[hw])
   go_ret
   rw[HR.out];exact⟨rfl,rfl⟩
  |false =>
  cases h4:((s[s.size-1].toNat:Int)==32)with
  |true =>
   have HR:=Lib.hid (TH s hl h4)
   go_enter Tryz.func201,Tryz.ntmps201
   go_wp2_with (go_at_call 151;refine(mF _ _ _ _).mono ?_;rintro e w' ⟨rfl,rfl⟩;rw[hw])
   go_ret
   rw[HR.out];exact⟨rfl,rfl⟩
  |false =>
   have HR:=Lib.hid (WN s hw h0 hl h3 h4)
   go_enter Tryz.func201,Tryz.ntmps201
   go_wp2_with (go_at_call 151;refine(mF _ _ _ _).mono ?_;rintro e w' ⟨rfl,rfl⟩;rw[hw])
   go_loop [24] (λi=> ∃k:Nat,k<=s.size/\i= .int .i64 k/\Hid (((S s).take k).all jR=true)) (λi=>s.size-(intOf i).toNat)
   case atStart=>exact⟨0,Nat.zero_le _,rfl,rfl⟩
   case round =>
    obtain⟨k,hk,rfl,ha⟩:=hrel;by_cases hd:k<s.size
    .have HF:=Lib.hid<|WO s[k];have HY:=Lib.hid λhc=>Gf s k hd ha.out hc;have HN:=Lib.hid<|TG s k hd;clear h3 h4 hw;cases c1:within s[k].toNat 97 122<;>cases c2:within s[k].toNat 48 57<;>cases c3:((s[k].toNat:Int)==32)
     all_goals
      have c4:((s[k].toNat:Int) != 32)= !((s[k].toNat:Int)==32):=rfl;rw[c3]at c4;have hv:=HF.out;rw[c1,c2,c3]at hv;simp only[Ao,vz,Vw,iI,vA,An]at hv c4;have HV:=Lib.hid hv;clear hv HF
      go_wp2_with (go_at_call 221;refine(IA _ _ _ _).mono ?_;rintro e w' ⟨rfl,rfl⟩;first|rw[c1]|rw[c2])
      first
       |(go_ret;rw[HN.out HV.out];exact⟨rfl,rfl⟩)
       |exact⟨⟨k+1,by omega,by go_num,HY.out HV.out⟩,by simp[intOf];omega⟩
    .go_wp2
     go_ret
     rw[HR.out k hd ha.out];exact⟨rfl,rfl⟩
