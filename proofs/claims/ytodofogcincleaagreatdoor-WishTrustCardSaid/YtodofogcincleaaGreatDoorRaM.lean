/-
  One text.
-/
import Derived.Test.YtodofogcincleaaGreatDoorMNf
import Derived.OwnWalk
import Derived.Laws.AppendOwn
import Derived.StillTailTactics
import Derived.Deep.QuietTactic
import Derived.BigQuiet
set_option linter.all false
set_option maxHeartbeats 1000000
namespace Go.Proofs.YtodofogcincleaaGreatDoor
open Go.RowKit
def qP(s:ByteArray)(j:Nat):Prop:= ∀(h:j<s.size),(97<=(s[j].toNat:Int)/\(s[j].toNat:Int)<=122)\/(48<=(s[j].toNat:Int)/\(s[j].toNat:Int)<=57)\/((s[j].toNat:Int)=45/\0<j/\j+1<s.size)
theorem nk(s:ByteArray)(k:Nat)(h:k<s.size):(S s)[k]? =some s[k]:=Lib.data_getElem? s k h
theorem yh(c:UInt8):dW c=true ↔ (97<=(c.toNat:Int)/\(c.toNat:Int)<=122)\/(48<=(c.toNat:Int)/\(c.toNat:Int)<=57)\/(c.toNat:Int)=45:=by
 have ha:c=45 ↔ (c.toNat:Int)=45:=by
  constructor
  .intro h;subst h;rfl
  .intro h;exact UInt8.toNat_inj.1 (by simp;omega)
 simp only[dW,Bool.or_eq_true,aU,decide_eq_true_eq,UInt8.le_iff_toNat_le,beq_iff_eq,ha];simp;omega
theorem Nx{s:ByteArray}{j:Nat}(hj:j<s.size)(h:¬qP s j):bY (S s)=false:=by
 rw[<- Bool.not_eq_true];intro hl;apply h;intro hn;unfold bY at hl;simp only[aU,bne_iff_ne,decide_eq_true_eq]at hl;obtain⟨⟨⟨⟨_,_⟩,h1⟩,h2⟩,h3⟩:=hl;have hm:=aD (nk s j hj);have hb:=(yh _).1 (aI.1 h3 _ hm);rcases hb with hb|hb|hb
 .exact .inl hb
 .exact .inr (.inl hb)
 .refine .inr (.inr ⟨hb,?_,?_⟩)
  .rcases Nat.eq_zero_or_pos j with rfl|hp
   .exfalso;apply h1
    rw[List.head?_eq_getElem?,nk s 0 hj];exact congrArg some (UInt8.toNat_inj.1 (by simp;omega))
   .exact hp
  .by_cases hf:j+1<s.size
   .exact hf
   .exfalso;apply h2
    rw[List.getLast?_eq_getElem?, <- cr,show s.size-1=j by omega,nk s j hj];exact congrArg some (UInt8.toNat_inj.1 (by simp;omega))
theorem KS{s:ByteArray}(h:∀j,j<s.size->qP s j):bY (S s)=(decide (1<=s.size)&&decide (s.size<=12)):=by
 have e1:(S s).head? ≠some 45:=by
  intro e;rw[List.head?_eq_getElem?]at e;obtain⟨h0,_⟩:=aB.1 e;rw[<- cr]at h0;rw[nk s 0 h0]at e;have:=h 0 h0 h0;rw[Option.some.inj e]at this;have hq:(((45:UInt8).toNat:Nat):Int)=45:=rfl;omega
 have e2:(S s).getLast? ≠some 45:=by
  intro e;rw[List.getLast?_eq_getElem?, <- cr]at e;obtain⟨h0,_⟩:=aB.1 e;rw[<- cr]at h0;rw[nk s _ h0]at e;have:=h _ h0 h0;rw[Option.some.inj e]at this;have hq:(((45:UInt8).toNat:Nat):Int)=45:=rfl;omega
 have e3:(S s).all dW=true:=by
  rw[aI];intro c hc;obtain⟨j,hj,e⟩:=List.getElem_of_mem hc;have hn :j<s.size:=by rw[cr];exact hj
  have hg:=nk s j hn;rw[au hj,e]at hg;rw[Option.some.inj hg,yh];have:=h j hn hn;omega
 unfold bY;rw[e3, <- cr];have b1:((S s).head? != some 45)=true:=by simpa using e1
 have b2:((S s).getLast? != some 45)=true:=by simpa using e2
 rw[b1,b2];simp
end Go.Proofs.YtodofogcincleaaGreatDoor
namespace Go.Proofs.YtodofogcincleaaGreatDoor
open Go.RowKit Go.Shelf
theorem oK(s:ByteArray)(hs:s.size<=140737488355328)(w:World) :
 Calls Tryz.prog 54 #[.string s] w λe w' =>e= .returned (.bool (bY (S s)))/\w=w' :=by
 go_enter Tryz.func54,Tryz.ntmps54
 go_wp2
 go_loop [3] (λi=> ∃k:Nat,k<=s.size/\i= .int .i64 k/\Hid (∀j,j<k->qP s j)) (λi=>s.size-(intOf i).toNat)
 case atStart=>exact⟨0,Nat.zero_le _,rfl,λj h=>absurd h (Nat.not_lt_zero j)⟩
 case round =>
  obtain⟨k,hk,rfl,hg⟩:=hrel;by_cases hh:k<s.size
  .have HB:=Lib.hid (λh=>Nx (s:=s) hh h);by_cases ha:(s[k].toNat:Int)=45
   .have ho:((s[k].toNat:Int)==45)=true:=by simpa using ha
    by_cases hi:0<k/\k+1<s.size
    .have hc:qP s k:=λ_=> .inr (.inr ⟨ha,hi⟩)
     obtain⟨i1,i2⟩:=hi;have HC:Hid (qP s k):=hc;clear ha hc;have hc:=HC
     go_wp2
     go_round
     case rel =>
      refine⟨k+1,by omega,by go_num,?_⟩;intro j hj;by_cases e:j=k
      .subst e;exact hc
      .exact hg.out j (by omega)
     case measure=>simp[intOf];omega
    .have hc:¬qP s k:=λh=>by have:=h hh;omega
     have c1:(s[k].toNat:Int)<48:=by omega
     have c2:(s[k].toNat:Int)<97:=by omega
     clear ha;by_cases i1:0<k
     .have i2:decide ((k:Int)<(s.size:Int)-1)=false:=by simp;omega
      clear hi
      go_wp2
      go_ret
      rw[HB.out hc];exact⟨rfl,rfl⟩
     .clear hi
      go_wp2
      go_ret
      rw[HB.out hc];exact⟨rfl,rfl⟩
   .have ho:((s[k].toNat:Int)==45)=false:=by simpa using ha
    by_cases hl:97<=(s[k].toNat:Int)
    .by_cases ht:(s[k].toNat:Int)<=122
     .have hc:qP s k:=λ_=> .inl ⟨hl,ht⟩
      clear ha
      go_wp2
      go_round
      case rel =>
       refine⟨k+1,by omega,by go_num,?_⟩;intro j hj;by_cases e:j=k
       .subst e;exact hc
       .exact hg.out j (by omega)
      case measure=>simp[intOf];omega
     .have hc:¬qP s k:=λh=>by have:=h hh;omega
      have c3:57<(s[k].toNat:Int):=by omega
      clear ha
      go_wp2
      go_ret
      rw[HB.out hc];exact⟨rfl,rfl⟩
    .by_cases hd:48<=(s[k].toNat:Int)
     .by_cases hr:(s[k].toNat:Int)<=57
      .have hc:qP s k:=λ_=> .inr (.inl ⟨hd,hr⟩)
       clear ha
       go_wp2
       go_round
       case rel =>
        refine⟨k+1,by omega,by go_num,?_⟩;intro j hj;by_cases e:j=k
        .subst e;exact hc
        .exact hg.out j (by omega)
       case measure=>simp[intOf];omega
      .have hc:¬qP s k:=λh=>by have:=h hh;omega
       clear ha
       go_wp2
       go_ret
       rw[HB.out hc];exact⟨rfl,rfl⟩
     .have hc:¬qP s k:=λh=>by have:=h hh;omega
      clear ha
      go_wp2
      go_ret
      rw[HB.out hc];exact⟨rfl,rfl⟩
  .have HG:=Lib.hid (KS (s:=s) (λj hj=>hg.out j (by omega)));clear hg;by_cases h1:1<=s.size
   .by_cases h2:s.size<=12
    .have HR:Hid (bY (S s)=true):=by unfold Hid;rw[HG.out];simp[h1,h2]
     have d2:decide ((s.size:Int)<=12)=true:=by simp;omega
     go_wp2
     go_ret
     rw[HR.out];exact⟨rfl,rfl⟩
    .have HR:Hid (bY (S s)=false):=by unfold Hid;rw[HG.out];simp[h2]
     have d2:decide ((s.size:Int)<=12)=false:=by simp;omega
     go_wp2
     go_ret
     rw[HR.out];exact⟨rfl,rfl⟩
   .have HR:Hid (bY (S s)=false):=by unfold Hid;rw[HG.out];simp[h1]
    have d1:decide ((1:Int)<=(s.size:Int))=false:=by simp;omega
    go_wp2
    go_ret
    rw[HR.out];exact⟨rfl,rfl⟩
end Go.Proofs.YtodofogcincleaaGreatDoor
