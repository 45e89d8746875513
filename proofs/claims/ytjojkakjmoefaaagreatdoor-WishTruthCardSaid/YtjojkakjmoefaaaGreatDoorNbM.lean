/-
  One text.
-/
import Derived.Test.YtjojkakjmoefaaaGreatDoorMPl
import Derived.Test.YtjojkakjmoefaaaGreatDoorRgM
import Derived.Test.YtjojkakjmoefaaaGreatDoorShelfM
import Derived.Outline
import Derived.Lib.Hide
import Derived.WalkLawsBesides
import Derived.WalkSpells
set_option linter.all false
set_option maxHeartbeats 1000000
namespace Go.Proofs.YtjojkakjmoefaaaGreatDoor
open Go.RowKit Go.Shelf
def oU(s:ByteArray)(k:Nat)(h:k<s.size):(S s)[k]? =some s[k]:=Lib.data_getElem? s k h
def It(s:ByteArray)(k:Nat)(h:k<s.size)(I:((S s).take k).all eJ=true)(J:eJ s[k]=true):((S s).take<|k+1).all eJ=true:=by
 have H:k<(S s).length:=by rw[<- bY];exact h
 have G:=oU s k h;rw[ao H]at G;have D :(S s)[k]=s[k]:=Option.some.inj G;have j:eJ ((S s)[k])=true:=by rw[D];exact J
 rw[List.take_succ_eq_append_getElem H,List.all_append,I];simp[j]
def Po(c:UInt8):eJ c=true ↔ (97<=(c.toNat:Int)/\(c.toNat:Int)<=122)\/(48<=(c.toNat:Int)/\(c.toNat:Int)<=57)\/(c.toNat:Int)=45:=by
 have j:c=45 ↔ (c.toNat:Int)=45:=by
  constructor
  .intro h;subst h;rfl
  .intro h;exact UInt8.toNat_inj.1 (by simp;omega)
 simp only[eJ,Bool.or_eq_true,aK,decide_eq_true_eq,UInt8.le_iff_toNat_le,beq_iff_eq,j];simp;omega
def Ue(s:ByteArray)(h:s.size<1):bR (S s)=false:=by
 have:(S s).length=0:=by rw[<- bY];omega
 simp[bR,this]
def Xm(s:ByteArray)(h:12<s.size):bR (S s)=false:=by
 have:¬(S s).length<=12:=by rw[<- bY];omega
 simp[bR,this]
def Ud(s:ByteArray)(h:0<s.size)(D:(s[0].toNat:Int)=45):bR (S s)=false:=by
 have j:=oU s 0 h;have:s[0]=45:=UInt8.toNat_inj.1 (by simp;omega);rw[this]at j;have:(S s).head? =some 45:=by rw[List.head?_eq_getElem?];exact j
 simp[bR,this]
def Xl(s:ByteArray)(h:s.size-1<s.size)(D:(s[s.size-1].toNat:Int)=45):bR (S s)=false:=by
 have j:=oU s (s.size-1) h;have:s[s.size-1]=45:=UInt8.toNat_inj.1 (by simp;omega);rw[this]at j;have:(S s).getLast? =some 45:=by rw[List.getLast?_eq_getElem?, <- bY];exact j
 simp[bR,this]
def Xk(s:ByteArray)(k:Nat)(h:k<s.size)(j:eJ s[k]=false):bR (S s)=false:=by
 have D:=oU s k h;have G:s[k]∈S s:=aw D;have:(S s).all eJ=false:=List.all_eq_false.2 ⟨_,G,by simp[j]⟩;simp[bR,this]
def ZW(s:ByteArray)(h1:¬s.size<1)(T:¬12<s.size)(h0:0<s.size)(N:s.size-1<s.size)(j:¬(s[0].toNat:Int)=45)(D:¬(s[s.size-1].toNat:Int)=45)
 (k:Nat) (U:¬k<s.size) (G:((S s).take k).all eJ=true):bR (S s)=true:=by
 have H:1<=(S s).length:=by rw[<- bY];omega
 have I:(S s).length<=12:=by rw[<- bY];omega
 rw[List.take_of_length_le<|by rw[<- bY];omega]at G;have J:(S s).head? ≠some 45:=by
  rw[List.head?_eq_getElem?,oU s 0 h0];intro e;have:=Option.some.inj e;rw[this]at j;exact j rfl
 have K:(S s).getLast? ≠some 45:=by
  rw[List.getLast?_eq_getElem?, <- bY,oU s _ N];intro e;have:=Option.some.inj e;rw[this]at D;exact D rfl
 simp only[bR,H,I,G,decide_true,gq,gF,aK,bne_iff_ne];exact⟨J,K⟩
def kx(s:ByteArray)(w:World) :
 Calls Tryz.prog 138 #[.string s] w λe w' =>e= .returned (.bool<|bR<|S s)/\w=w' :=by
 by_cases h1:s.size<1
 .have HR:=Lib.hid (Ue s h1)
  go_enter Tryz.func138,Tryz.ntmps138
  go_wp2
  go_ret
  rw[HR.out];exact⟨rfl,rfl⟩
 by_cases h2:12<s.size
 .have HR:=Lib.hid (Xm s h2)
  go_enter Tryz.func138,Tryz.ntmps138
  go_wp2
  go_ret
  rw[HR.out];exact⟨rfl,rfl⟩
 have h0:0<s.size:=by omega
 have hl:s.size-1<s.size:=by omega
 by_cases h3:(s[0].toNat:Int)=45
 .have HR:=Lib.hid (Ud s h0 h3)
  go_enter Tryz.func138,Tryz.ntmps138
  go_wp2
  go_ret
  rw[HR.out];exact⟨rfl,rfl⟩
 by_cases h4:(s[s.size-1].toNat:Int)=45
 .have HR:=Lib.hid<|Xl s hl h4;have hd :((s[0].toNat:Int)==45)=false:=by simp[h3]
  have hf :((s[s.size-1].toNat:Int)==45)=true:=by simp[h4]
  clear h3 h4
  go_enter Tryz.func138,Tryz.ntmps138
  go_wp2
  go_ret
  rw[HR.out];exact⟨rfl,rfl⟩
 have HR:=Lib.hid<|ZW s h1 h2 h0 hl h3 h4;have hd :((s[0].toNat:Int)==45)=false:=by simp[h3]
 have hf :((s[s.size-1].toNat:Int)==45)=false:=by simp[h4]
 have d1:decide ((s.size:Int)<1)=false:=by simp;omega
 have d2:decide ((12:Int)<s.size)=false:=by simp;omega
 clear h3 h4
 go_enter Tryz.func138,Tryz.ntmps138
 go_wp2
 go_loop [28] (λi=> ∃k:Nat,k<=s.size/\i= .int .i64 k/\Hid (((S s).take k).all eJ=true)) (λi=>s.size-(intOf i).toNat)
 case atStart=>exact⟨0,Nat.zero_le _,rfl,rfl⟩
 case round =>
  obtain⟨k,hk,rfl,ha⟩:=hrel;by_cases hb:k<s.size
  .have HY:=Lib.hid λhc=>It s k hb ha.out hc;have HN:=Lib.hid<|Xk s k hb;clear hd hf
   go_wp2
   all_goals first
    | (have hc : eJ s[k] = false := by
         rw[<- Bool.not_eq_true,Po];simp only[bne_iff_ne,ne_eq,bne_eq_false_iff_eq]at *; omega
       go_ret
       rw[HN.out hc];exact⟨rfl,rfl⟩)
    | (have hc : eJ s[k] = true := by
         rw[Po];simp only[bne_eq_false_iff_eq]at *; omega
       exact⟨⟨k+1,by omega,by go_num,HY.out hc⟩,by simp[intOf];omega⟩)
  .have HF:=Lib.hid (HR.out k hb ha.out)
   go_wp2
   go_ret
   rw[HF.out];exact⟨rfl,rfl⟩
