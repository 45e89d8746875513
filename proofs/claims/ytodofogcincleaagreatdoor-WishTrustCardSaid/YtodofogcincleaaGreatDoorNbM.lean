/-
  One text.
-/
import Derived.Test.YtodofogcincleaaGreatDoorMPl
import Derived.Test.YtodofogcincleaaGreatDoorRgM
import Derived.Test.YtodofogcincleaaGreatDoorShelfM
import Derived.Outline
import Derived.Lib.Hide
import Derived.WalkLawsBesides
import Derived.WalkSpells
set_option linter.all false
set_option maxHeartbeats 1000000
namespace Go.Proofs.YtodofogcincleaaGreatDoor
open Go.RowKit Go.Shelf
theorem mO(s:ByteArray)(k:Nat)(h:k<s.size):(S s)[k]? =some s[k]:=Lib.data_getElem? s k h
theorem DF(s:ByteArray)(k:Nat)(h:k<s.size)(ha:((S s).take k).all dW=true)(hc:dW s[k]=true):((S s).take (k+1)).all dW=true:=by
 have hk:k<(S s).length:=by rw[<- cr];exact h
 have hg:=mO s k h;rw[au hk]at hg;have hj :(S s)[k]=s[k]:=Option.some.inj hg;have hi:dW ((S s)[k])=true:=by rw[hj];exact hc
 rw[List.take_succ_eq_append_getElem hk,List.all_append,ha];simp[hi]
theorem Jp(c:UInt8):dW c=true ↔ (97<=(c.toNat:Int)/\(c.toNat:Int)<=122)\/(48<=(c.toNat:Int)/\(c.toNat:Int)<=57)\/(c.toNat:Int)=45:=by
 have hh:c=45 ↔ (c.toNat:Int)=45:=by
  constructor
  .intro h;subst h;rfl
  .intro h;exact UInt8.toNat_inj.1 (by simp;omega)
 simp only[dW,Bool.or_eq_true,aU,decide_eq_true_eq,UInt8.le_iff_toNat_le,beq_iff_eq,hh];simp;omega
theorem Nw(s:ByteArray)(h:s.size<1):bY (S s)=false:=by
 have:(S s).length=0:=by rw[<- cr];omega
 simp[bY,this]
theorem Qo(s:ByteArray)(h:12<s.size):bY (S s)=false:=by
 have:¬(S s).length<=12:=by rw[<- cr];omega
 simp[bY,this]
theorem Nv(s:ByteArray)(h:0<s.size)(hc:(s[0].toNat:Int)=45):bY (S s)=false:=by
 have hg:=mO s 0 h;have:s[0]=45:=UInt8.toNat_inj.1 (by simp;omega);rw[this]at hg;have:(S s).head? =some 45:=by rw[List.head?_eq_getElem?];exact hg
 simp[bY,this]
theorem Qn(s:ByteArray)(h:s.size-1<s.size)(hc:(s[s.size-1].toNat:Int)=45):bY (S s)=false:=by
 have hg:=mO s (s.size-1) h;have:s[s.size-1]=45:=UInt8.toNat_inj.1 (by simp;omega);rw[this]at hg;have:(S s).getLast? =some 45:=by rw[List.getLast?_eq_getElem?, <- cr];exact hg
 simp[bY,this]
theorem Qm(s:ByteArray)(k:Nat)(h:k<s.size)(hc:dW s[k]=false):bY (S s)=false:=by
 have hg:=mO s k h;have hm:s[k]∈S s:=aD hg;have:(S s).all dW=false:=List.all_eq_false.2 ⟨_,hm,by simp[hc]⟩;simp[bY,this]
theorem SH(s:ByteArray)(h1:¬s.size<1)(h2:¬12<s.size)(h0:0<s.size)(hl:s.size-1<s.size)(h3:¬(s[0].toNat:Int)=45)(h4:¬(s[s.size-1].toNat:Int)=45)
 (k:Nat) (hk:¬k<s.size) (ha:((S s).take k).all dW=true):bY (S s)=true:=by
 have e1:1<=(S s).length:=by rw[<- cr];omega
 have e2:(S s).length<=12:=by rw[<- cr];omega
 rw[List.take_of_length_le (by rw[<- cr];omega)]at ha;have e3:(S s).head? ≠some 45:=by
  rw[List.head?_eq_getElem?,mO s 0 h0];intro e;have:=Option.some.inj e;rw[this]at h3;exact h3 rfl
 have e4:(S s).getLast? ≠some 45:=by
  rw[List.getLast?_eq_getElem?, <- cr,mO s _ hl];intro e;have:=Option.some.inj e;rw[this]at h4;exact h4 rfl
 simp only[bY,e1,e2,ha,decide_true,iS,iG,aU,bne_iff_ne];exact⟨e3,e4⟩
theorem uW(s:ByteArray)(w:World) :
 Calls Tryz.prog 199 #[.string s] w λe w' =>e= .returned (.bool (bY (S s)))/\w=w' :=by
 by_cases h1:s.size<1
 .have HR:=Lib.hid (Nw s h1)
  go_enter Tryz.func199,Tryz.ntmps199
  go_wp2
  go_ret
  rw[HR.out];exact⟨rfl,rfl⟩
 by_cases h2:12<s.size
 .have HR:=Lib.hid (Qo s h2)
  go_enter Tryz.func199,Tryz.ntmps199
  go_wp2
  go_ret
  rw[HR.out];exact⟨rfl,rfl⟩
 have h0:0<s.size:=by omega
 have hl:s.size-1<s.size:=by omega
 by_cases h3:(s[0].toNat:Int)=45
 .have HR:=Lib.hid (Nv s h0 h3)
  go_enter Tryz.func199,Tryz.ntmps199
  go_wp2
  go_ret
  rw[HR.out];exact⟨rfl,rfl⟩
 by_cases h4:(s[s.size-1].toNat:Int)=45
 .have HR:=Lib.hid (Qn s hl h4);have hd :((s[0].toNat:Int)==45)=false:=by simp[h3]
  have hf :((s[s.size-1].toNat:Int)==45)=true:=by simp[h4]
  clear h3 h4
  go_enter Tryz.func199,Tryz.ntmps199
  go_wp2
  go_ret
  rw[HR.out];exact⟨rfl,rfl⟩
 have HR:=Lib.hid (SH s h1 h2 h0 hl h3 h4);have hd :((s[0].toNat:Int)==45)=false:=by simp[h3]
 have hf :((s[s.size-1].toNat:Int)==45)=false:=by simp[h4]
 have d1:decide ((s.size:Int)<1)=false:=by simp;omega
 have d2:decide ((12:Int)<s.size)=false:=by simp;omega
 clear h3 h4
 go_enter Tryz.func199,Tryz.ntmps199
 go_wp2
 go_loop [28] (λi=> ∃k:Nat,k<=s.size/\i= .int .i64 k/\Hid (((S s).take k).all dW=true)) (λi=>s.size-(intOf i).toNat)
 case atStart=>exact⟨0,Nat.zero_le _,rfl,rfl⟩
 case round =>
  obtain⟨k,hk,rfl,ha⟩:=hrel;by_cases hb:k<s.size
  .have HY:=Lib.hid (λhc=>DF s k hb ha.out hc);have HN:=Lib.hid (Qm s k hb);clear hd hf
   go_wp2
   all_goals first
    | (have hc : dW s[k] = false := by
         rw[<- Bool.not_eq_true,Jp];simp only[bne_iff_ne,ne_eq,bne_eq_false_iff_eq]at *; omega
       go_ret
       rw[HN.out hc];exact⟨rfl,rfl⟩)
    | (have hc : dW s[k] = true := by
         rw[Jp];simp only[bne_eq_false_iff_eq]at *; omega
       exact⟨⟨k+1,by omega,by go_num,HY.out hc⟩,by simp[intOf];omega⟩)
  .have HF:=Lib.hid (HR.out k hb ha.out)
   go_wp2
   go_ret
   rw[HF.out];exact⟨rfl,rfl⟩
end Go.Proofs.YtodofogcincleaaGreatDoor
