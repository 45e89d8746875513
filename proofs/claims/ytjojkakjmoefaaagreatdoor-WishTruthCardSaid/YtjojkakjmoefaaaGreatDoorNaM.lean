/-
  One text.
-/
import Derived.Test.YtjojkakjmoefaaaGreatDoorMPl
import Derived.Test.YtjojkakjmoefaaaGreatDoorRgM
import Derived.Test.YtjojkakjmoefaaaGreatDoorShelfM
import Derived.Outline
import Derived.Lib.Hide
import Derived.WalkLawsBesides
import Derived.WalkSpells
set_option linter.all false
set_option maxHeartbeats 1000000
namespace Go.Proofs.YtjojkakjmoefaaaGreatDoor
open Go.RowKit Go.Shelf
attribute [local go_sem] Oper.semAt_some
def Vf:Value->Nat| .string s=>s.size|_=>0
def kD{a:ByteArray}{l:List UInt8}(h:S a=l):(a.toList==l)=true:=by rw[eU,h];simp
def gH{a:ByteArray}{l:List UInt8}(h:¬S a=l):(a.toList==l)=false:=by rw[eU];simp[h]
def Cf(t:ByteArray)(ht:t.size<=140737488355328)(n₀:Nat)(w:World) :
 PX Tryz.prog 137 #[.string t] #[] (λx:ByteArray=> #[.string x]) ((back<|S t).map mk) Eq n₀ w:=by
 intro l J Jx _ _ hY W hW h0;refine callsIn_of_wp Tryz.func137 rfl trivial ?_ rfl;simp only[Tryz.ntmps137,List.size_toArray,List.length_cons,List.length_nil,Nat.reduceAdd,Nat.reduceSub,Array.replicate_succ,Array.replicate_zero,List.push_toArray,List.append_toArray,List.nil_append,List.cons_append];have HY:=Lib.hid hY;clear hY;by_cases hr:S t=[46]
 .have hq:=kD hr;have hb:back (S t)=[]:=by simp[back,hr]
  have HB:=Lib.hid hb;clear hb hr
  gi_wp2
  refine bodyPost_ret (results_none rfl _ _ _) rfl ?_;rw[HB.out];exact⟨⟨_,rfl⟩,.inl h0⟩
 .have hq:=gH hr;have hb:(back<|S t).map mk=((bn<|S t).reverse).map mk:=by simp[back,hr]
  have HB:=Lib.hid hb;clear hb hr
  gi_wp2
  gi_loopw [4] (λv wr=> ∃(pre:List ByteArray) (rest:ByteArray),v= .string rest/\rest.size<=140737488355328/\(back<|S t).map mk=pre++((bn<|S rest).reverse).map mk/\J pre wr) (λv _=>Vf v)
  case atStart =>
   exact⟨[],t,rfl,ht,HB.out,h0⟩
  case round =>
   obtain⟨pre,rest,rfl,hh,hx,hJ⟩:=hrel;rcases zD rest with ⟨hi,hc⟩|⟨i,hd,hi,hc⟩
   .have hl:rest.extract 0 rest.size=rest:=by
     apply Ar;rw[lP,bY];simp
    obtain⟨fn,tmps,assign,body,hy,hR⟩:=HY.out pre rest [] wr (by rw[hx,hc];simp) hJ;have HX:=Lib.hid hx;have HI:=Lib.hid hi;have hg:=Lib.hid hc;clear hx hi hc
    gi_wp2_with (refine⟨trivial,?_⟩;gi_at_call 194;refine(callsIn_wide.2<|Tryz.strings_LastIndexByte _ _ (by omega) _).mono ?_;rintro e w' ⟨rfl,rfl⟩;rw[HI.out])
    refine hR.mono ?_;rintro e W3 (⟨rfl,hf,_⟩|⟨rfl,ha⟩)
    .gi_wp2
     refine bodyPost_ret (results_none rfl _ _ _) rfl ?_;refine⟨⟨_,rfl⟩,.inl ?_⟩;have e1:=HX.out;rw[hg.out]at e1;simp only[List.reverse_cons,List.reverse_nil,List.nil_append,List.map_cons,List.map_nil,mk_S]at e1;rw[e1];exact hf
    .gi_wp2
     refine bodyPost_ret (results_none rfl _ _ _) rfl ?_;refine⟨⟨_,rfl⟩,.inr ⟨_,⟨[],?_⟩,ha⟩⟩;have e1:=HX.out;rw[hg.out]at e1;simp only[List.reverse_cons,List.reverse_nil,List.nil_append,List.map_cons,List.map_nil,mk_S]at e1;rw[e1];simp
   .have e1:(back<|S t).map mk=pre++rest.extract (i+1) rest.size::((bn<|S<|rest.extract 0 i).reverse).map mk:=by
     rw[hx,hc];simp
    obtain⟨fn,tmps,assign,body,hy,hR⟩:=HY.out pre (rest.extract (i+1) rest.size) _ wr e1 hJ;have HX:=Lib.hid e1;have HI:=Lib.hid hi;clear hx hi hc e1;have hj:i+1<=rest.size:=hd;have hex:(rest.extract 0 i).size=i:=by rw[bY,lP,List.length_take,List.length_drop, <- bY];omega
    have HE:=Lib.hid hex;clear hex
    gi_wp2_with (refine⟨trivial,?_⟩;gi_at_call 194;refine(callsIn_wide.2<|Tryz.strings_LastIndexByte _ _ (by omega) _).mono ?_;rintro e w' ⟨rfl,rfl⟩;rw[HI.out])
    refine hR.mono ?_;rintro e W3 (⟨rfl,hf,_⟩|⟨rfl,ha⟩)
    .gi_wp2
     go_roundw
     case rel =>
      refine⟨pre++[rest.extract (i+1) rest.size],rest.extract 0 i,rfl,?_,?_,hf⟩
      .rw[HE.out];omega
      .rw[HX.out];simp
     case measure =>
      simp only[Vf];rw[HE.out];exact hd
    .gi_wp2
     refine bodyPost_ret (results_none rfl _ _ _) rfl ?_;refine⟨⟨_,rfl⟩,.inr ⟨_,⟨((bn<|S<|rest.extract 0 i).reverse).map mk,?_⟩,ha⟩⟩;rw[HX.out];simp
