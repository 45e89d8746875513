/-
  One text.
-/
import Derived.Test.YtjojkakjmoefaaaGreatDoorMNf
import Derived.OwnWalk
import Derived.Laws.AppendOwn
import Derived.StillTailTactics
import Derived.Deep.QuietTactic
import Derived.BigQuiet
set_option linter.all false
set_option maxHeartbeats 1000000
namespace Go.Proofs.YtjojkakjmoefaaaGreatDoor
open Go.RowKit
def um(s:ByteArray)(j:Nat):Prop:= ∀(h:j<s.size),(97<=(s[j].toNat:Int)/\(s[j].toNat:Int)<=122)\/(48<=(s[j].toNat:Int)/\(s[j].toNat:Int)<=57)\/((s[j].toNat:Int)=45/\0<j/\j+1<s.size)
def pF(s:ByteArray)(k:Nat)(h:k<s.size):(S s)[k]? =some s[k]:=Lib.data_getElem? s k h
def BB(c:UInt8):eJ c=true ↔ (97<=(c.toNat:Int)/\(c.toNat:Int)<=122)\/(48<=(c.toNat:Int)/\(c.toNat:Int)<=57)\/(c.toNat:Int)=45:=by
 have j:c=45 ↔ (c.toNat:Int)=45:=by
  constructor
  .intro h;subst h;rfl
  .intro h;exact UInt8.toNat_inj.1 (by simp;omega)
 simp only[eJ,Bool.or_eq_true,aK,decide_eq_true_eq,UInt8.le_iff_toNat_le,beq_iff_eq,j];simp;omega
def Uf{s:ByteArray}{j:Nat}(H:j<s.size)(h:¬um s j):bR (S s)=false:=by
 rw[<- Bool.not_eq_true];intro I;apply h;intro N;unfold bR at I;simp only[aK,bne_iff_ne,decide_eq_true_eq]at I;obtain⟨⟨⟨⟨_,_⟩,h1⟩,J⟩,K⟩:=I;have T:=aw<|pF s j H;have D:=(BB _).1<|aG.1 K _ T;rcases D with D|D|D
 .exact .inl D
 .exact .inr<|.inl D
 .refine .inr<|.inr ⟨D,?_,?_⟩
  .rcases Nat.eq_zero_or_pos j with rfl|hp
   .exfalso;apply h1
    rw[List.head?_eq_getElem?,pF s 0 H];exact congrArg some (UInt8.toNat_inj.1<|by simp;omega)
   .exact hp
  .by_cases G:j+1<s.size
   .exact G
   .exfalso;apply J
    rw[List.getLast?_eq_getElem?, <- bY,show s.size-1=j by omega,pF s j H];exact congrArg some (UInt8.toNat_inj.1<|by simp;omega)
def Re{s:ByteArray}(h:∀j,j<s.size->um s j):bR (S s)=(decide (1<=s.size)&&decide (s.size<=12)):=by
 have N:(S s).head? ≠some 45:=by
  intro e;rw[List.head?_eq_getElem?]at e;obtain⟨h0,_⟩:=aA.1 e;rw[<- bY]at h0;rw[pF s 0 h0]at e;have:=h 0 h0 h0;rw[Option.some.inj e]at this;have G:(((45:UInt8).toNat:Nat):Int)=45:=rfl;omega
 have T:(S s).getLast? ≠some 45:=by
  intro e;rw[List.getLast?_eq_getElem?, <- bY]at e;obtain⟨h0,_⟩:=aA.1 e;rw[<- bY]at h0;rw[pF s _ h0]at e;have:=h _ h0 h0;rw[Option.some.inj e]at this;have G:(((45:UInt8).toNat:Nat):Int)=45:=rfl;omega
 have U:(S s).all eJ=true:=by
  rw[aG];intro c V;obtain⟨j,I,e⟩:=List.getElem_of_mem V;have D :j<s.size:=by rw[bY];exact I
  have H:=pF s j D;rw[ao I,e]at H;rw[Option.some.inj H,BB];have:=h j D D;omega
 unfold bR;rw[U, <- bY];have J:((S s).head? != some 45)=true:=by simpa using N
 have K:((S s).getLast? != some 45)=true:=by simpa using T
 rw[J,K];simp
end Go.Proofs.YtjojkakjmoefaaaGreatDoor

namespace Go.Proofs.YtjojkakjmoefaaaGreatDoor
open Go.RowKit Go.Shelf
def ri(s:ByteArray)(hs:s.size<=140737488355328)(w:World) :
 Calls Tryz.prog 23 #[.string s] w λe w' =>e= .returned (.bool<|bR<|S s)/\w=w' :=by
 go_enter Tryz.func23,Tryz.ntmps23
 go_wp2
 go_loop [3] (λi=> ∃k:Nat,k<=s.size/\i= .int .i64 k/\Hid (∀j,j<k->um s j)) (λi=>s.size-(intOf i).toNat)
 case atStart=>exact⟨0,Nat.zero_le _,rfl,λj h=>absurd h<|Nat.not_lt_zero j⟩
 case round =>
  obtain⟨k,hk,rfl,hg⟩:=hrel;by_cases hb:k<s.size
  .have HB:=Lib.hid λh=>Uf (s:=s) hb h;by_cases ha:(s[k].toNat:Int)=45
   .have hh:((s[k].toNat:Int)==45)=true:=by simpa using ha
    by_cases hf:0<k/\k+1<s.size
    .have hc:um s k:=λ_=> .inr<|.inr ⟨ha,hf⟩
     obtain⟨i1,i2⟩:=hf;have HC:Hid<|um s k:=hc;clear ha hc;have hc:=HC
     go_wp2
     go_round
     case rel =>
      refine⟨k+1,by omega,by go_num,?_⟩;intro j hj;by_cases e:j=k
      .subst e;exact hc
      .exact hg.out j (by omega)
     case measure=>simp[intOf];omega
    .have hc:¬um s k:=λh=>by have:=h hb;omega
     have c1:(s[k].toNat:Int)<48:=by omega
     have c2:(s[k].toNat:Int)<97:=by omega
     clear ha;by_cases i1:0<k
     .have i2:decide ((k:Int)<(s.size:Int)-1)=false:=by simp;omega
      clear hf
      go_wp2
      go_ret
      rw[HB.out hc];exact⟨rfl,rfl⟩
     .clear hf
      go_wp2
      go_ret
      rw[HB.out hc];exact⟨rfl,rfl⟩
   .have hh:((s[k].toNat:Int)==45)=false:=by simpa using ha
    by_cases hl:97<=(s[k].toNat:Int)
    .by_cases hn:(s[k].toNat:Int)<=122
     .have hc:um s k:=λ_=> .inl ⟨hl,hn⟩
      clear ha
      go_wp2
      go_round
      case rel =>
       refine⟨k+1,by omega,by go_num,?_⟩;intro j hj;by_cases e:j=k
       .subst e;exact hc
       .exact hg.out j (by omega)
      case measure=>simp[intOf];omega
     .have hc:¬um s k:=λh=>by have:=h hb;omega
      have c3:57<(s[k].toNat:Int):=by omega
      clear ha
      go_wp2
      go_ret
      rw[HB.out hc];exact⟨rfl,rfl⟩
    .by_cases hd:48<=(s[k].toNat:Int)
     .by_cases hi:(s[k].toNat:Int)<=57
      .have hc:um s k:=λ_=> .inr<|.inl ⟨hd,hi⟩
       clear ha
       go_wp2
       go_round
       case rel =>
        refine⟨k+1,by omega,by go_num,?_⟩;intro j hj;by_cases e:j=k
        .subst e;exact hc
        .exact hg.out j (by omega)
       case measure=>simp[intOf];omega
      .have hc:¬um s k:=λh=>by have:=h hb;omega
       clear ha
       go_wp2
       go_ret
       rw[HB.out hc];exact⟨rfl,rfl⟩
     .have hc:¬um s k:=λh=>by have:=h hb;omega
      clear ha
      go_wp2
      go_ret
      rw[HB.out hc];exact⟨rfl,rfl⟩
  .have HG:=Lib.hid (Re (s:=s) λj hj=>hg.out j<|by omega);clear hg;by_cases h1:1<=s.size
   .by_cases h2:s.size<=12
    .have HR:Hid<|bR (S s)=true:=by unfold Hid;rw[HG.out];simp[h1,h2]
     have d2:decide ((s.size:Int)<=12)=true:=by simp;omega
     go_wp2
     go_ret
     rw[HR.out];exact⟨rfl,rfl⟩
    .have HR:Hid<|bR (S s)=false:=by unfold Hid;rw[HG.out];simp[h2]
     have d2:decide ((s.size:Int)<=12)=false:=by simp;omega
     go_wp2
     go_ret
     rw[HR.out];exact⟨rfl,rfl⟩
   .have HR:Hid<|bR (S s)=false:=by unfold Hid;rw[HG.out];simp[h1]
    have d1:decide ((1:Int)<=(s.size:Int))=false:=by simp;omega
    go_wp2
    go_ret
    rw[HR.out];exact⟨rfl,rfl⟩
