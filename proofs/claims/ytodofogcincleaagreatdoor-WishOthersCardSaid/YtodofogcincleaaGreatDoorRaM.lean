/-
  One text.
-/
import Derived.Test.YtodofogcincleaaGreatDoorMNf
import Derived.OwnWalk
import Derived.Laws.AppendOwn
import Derived.StillTailTactics
import Derived.Deep.QuietTactic
import Derived.BigQuiet
set_option linter.all false
namespace NP
open Go Go.RowKit
def pt(s:ByteArray)(j:Nat):Prop:= ∀(h:j<s.size),(97<=(s[j].toNat:Int)/\(s[j].toNat:Int)<=122)\/(48<=(s[j].toNat:Int)/\(s[j].toNat:Int)<=57)\/((s[j].toNat:Int)=45/\0<j/\j+1<s.size)
theorem lQ(s:ByteArray)(k:Nat)(h:k<s.size):(S s)[k]? =some s[k]:=Lib.data_getElem? s k h
theorem wb(c:UInt8):dm c=true ↔ (97<=(c.toNat:Int)/\(c.toNat:Int)<=122)\/(48<=(c.toNat:Int)/\(c.toNat:Int)<=57)\/(c.toNat:Int)=45:=by
 have h45:c=45 ↔ (c.toNat:Int)=45:=by
  constructor
  . intro h;subst h;rfl
  . intro h;exact UInt8.toNat_inj.1 (by simp;omega)
 simp only[dm,Bool.or_eq_true,aF,decide_eq_true_eq,UInt8.le_iff_toNat_le,beq_iff_eq,h45];simp;omega
theorem KM{s:ByteArray}{j:Nat}(hj:j<s.size)(h:¬pt s j):bC (S s)=false:=by
 rw[<- Bool.not_eq_true];intro hl;apply h;intro hj';unfold bC at hl;simp only[aF,bne_iff_ne,decide_eq_true_eq]at hl;obtain⟨⟨⟨⟨_,_⟩,h1⟩,h2⟩,h3⟩:=hl;have hm:=au (lQ s j hj);have hb:=(wb _).1 (ay.1 h3 _ hm);rcases hb with hb|hb|hb
 . exact .inl hb
 . exact .inr (.inl hb)
 . refine .inr (.inr ⟨hb,?_,?_⟩)
   . rcases Nat.eq_zero_or_pos j with rfl|hp
     . exfalso;apply h1
       rw[List.head?_eq_getElem?,lQ s 0 hj];exact congrArg some (UInt8.toNat_inj.1 (by simp;omega))
     . exact hp
   . by_cases hlast:j+1<s.size
     . exact hlast
     . exfalso;apply h2
       rw[List.getLast?_eq_getElem?, <- bG,show s.size-1=j by omega,lQ s j hj];exact congrArg some (UInt8.toNat_inj.1 (by simp;omega))
theorem Il{s:ByteArray}(h:∀j,j<s.size->pt s j):bC (S s)=(decide (1<=s.size)&&decide (s.size<=12)):=by
 have e1:(S s).head? ≠some 45:=by
  intro e;rw[List.head?_eq_getElem?]at e;obtain⟨h0,_⟩:=aq.1 e;rw[<- bG]at h0;rw[lQ s 0 h0]at e;have:=h 0 h0 h0;rw[Option.some.inj e]at this;have e45:(((45:UInt8).toNat:Nat):Int)=45:=rfl;omega
 have e2:(S s).getLast? ≠some 45:=by
  intro e;rw[List.getLast?_eq_getElem?, <- bG]at e;obtain⟨h0,_⟩:=aq.1 e;rw[<- bG]at h0;rw[lQ s _ h0]at e;have:=h _ h0 h0;rw[Option.some.inj e]at this;have e45:(((45:UInt8).toNat:Nat):Int)=45:=rfl;omega
 have e3:(S s).all dm=true:=by
  rw[ay];intro c hc;obtain⟨j,hj,e⟩:=List.getElem_of_mem hc;have hj' :j<s.size:=by rw[bG];exact hj
  have hg:=lQ s j hj';rw[ai hj,e]at hg;rw[Option.some.inj hg,wb];have:=h j hj' hj';omega
 unfold bC;rw[e3, <- bG];have b1:((S s).head? != some 45)=true:=by simpa using e1
 have b2:((S s).getLast? != some 45)=true:=by simpa using e2
 rw[b1,b2];simp
end NP
namespace Go.Proofs.YtodofogcincleaaGreatDoor
open Go.RowKit Go.Shelf NP
set_option maxHeartbeats 1000000 in
theorem ng(s:ByteArray)(hs:s.size<=140737488355328)(w:World) :
 Calls Tryz.prog 54 #[.string s] w λe w' =>e= .returned (.bool (bC (S s)))/\w=w' :=by
 go_enter Tryz.func54,Tryz.ntmps54
 go_wp2
 go_loop [3] (λi=> ∃k:Nat,k<=s.size/\i= .int .i64 k/\Hid (∀j,j<k->pt s j)) (λi=>s.size-(intOf i).toNat)
 case atStart=>exact⟨0,Nat.zero_le _,rfl,λj h=>absurd h (Nat.not_lt_zero j)⟩
 case round =>
  obtain⟨k,hk,rfl,hg⟩:=hrel;by_cases hlt:k<s.size
  . have HB:=Lib.hid (λh=>KM (s:=s) hlt h);by_cases h45:(s[k].toNat:Int)=45
    . have b45:((s[k].toNat:Int)==45)=true:=by simpa using h45
      by_cases hin:0<k/\k+1<s.size
      . have hc:pt s k:=λ_=> .inr (.inr ⟨h45,hin⟩)
        obtain⟨i1,i2⟩:=hin;have HC:Hid (pt s k):=hc;clear h45 hc;have hc:=HC
        go_wp2
        go_round
        case rel =>
         refine⟨k+1,by omega,by go_num,?_⟩;intro j hj;by_cases e:j=k
         . subst e;exact hc
         . exact hg.out j (by omega)
        case measure=>simp[intOf];omega
      . have hc:¬pt s k:=λh=>by have:=h hlt;omega
        have c1:(s[k].toNat:Int)<48:=by omega
        have c2:(s[k].toNat:Int)<97:=by omega
        clear h45;by_cases i1:0<k
        . have i2:decide ((k:Int)<(s.size:Int)-1)=false:=by simp;omega
          clear hin
          go_wp2
          go_ret
          rw[HB.out hc];exact⟨rfl,rfl⟩
        . clear hin
          go_wp2
          go_ret
          rw[HB.out hc];exact⟨rfl,rfl⟩
    . have b45:((s[k].toNat:Int)==45)=false:=by simpa using h45
      by_cases hl:97<=(s[k].toNat:Int)
      . by_cases hl2:(s[k].toNat:Int)<=122
        . have hc:pt s k:=λ_=> .inl ⟨hl,hl2⟩
          clear h45
          go_wp2
          go_round
          case rel =>
           refine⟨k+1,by omega,by go_num,?_⟩;intro j hj;by_cases e:j=k
           . subst e;exact hc
           . exact hg.out j (by omega)
          case measure=>simp[intOf];omega
        . have hc:¬pt s k:=λh=>by have:=h hlt;omega
          have c3:57<(s[k].toNat:Int):=by omega
          clear h45
          go_wp2
          go_ret
          rw[HB.out hc];exact⟨rfl,rfl⟩
      . by_cases hd:48<=(s[k].toNat:Int)
        . by_cases hd2:(s[k].toNat:Int)<=57
          . have hc:pt s k:=λ_=> .inr (.inl ⟨hd,hd2⟩)
            clear h45
            go_wp2
            go_round
            case rel =>
             refine⟨k+1,by omega,by go_num,?_⟩;intro j hj;by_cases e:j=k
             . subst e;exact hc
             . exact hg.out j (by omega)
            case measure=>simp[intOf];omega
          . have hc:¬pt s k:=λh=>by have:=h hlt;omega
            clear h45
            go_wp2
            go_ret
            rw[HB.out hc];exact⟨rfl,rfl⟩
        . have hc:¬pt s k:=λh=>by have:=h hlt;omega
          clear h45
          go_wp2
          go_ret
          rw[HB.out hc];exact⟨rfl,rfl⟩
  . have HG:=Lib.hid (Il (s:=s) (λj hj=>hg.out j (by omega)));clear hg;by_cases h1:1<=s.size
    . by_cases h2:s.size<=12
      . have HR:Hid (bC (S s)=true):=by unfold Hid;rw[HG.out];simp[h1,h2]
        have d2:decide ((s.size:Int)<=12)=true:=by simp;omega
        go_wp2
        go_ret
        rw[HR.out];exact⟨rfl,rfl⟩
      . have HR:Hid (bC (S s)=false):=by unfold Hid;rw[HG.out];simp[h2]
        have d2:decide ((s.size:Int)<=12)=false:=by simp;omega
        go_wp2
        go_ret
        rw[HR.out];exact⟨rfl,rfl⟩
    . have HR:Hid (bC (S s)=false):=by unfold Hid;rw[HG.out];simp[h1]
      have d1:decide ((1:Int)<=(s.size:Int))=false:=by simp;omega
      go_wp2
      go_ret
      rw[HR.out];exact⟨rfl,rfl⟩
end Go.Proofs.YtodofogcincleaaGreatDoor
