/-
  One text.
-/
import Derived.Test.YtjojkakjmoefaaaGreatDoorMQbs
import Derived.Recover
set_option linter.all false

namespace NQ
open Go Go.RowKit
def LZ{P:Program}{ops:Array Oper}{Q:Exit->Act->List Frame->World->Prop}{cs:List Frame}(I:∀a w,¬Q .outgrown a cs w):∀(l:List Oper) (k:Nat) (a:Act) (w:World),(∀j:Nat,l[j]? =ops[k+j]?)->wpList P ops (λe a w=>Q e a cs w) l a w->wpOpsS P ops Q (List.range' k l.length) a cs w
 |[],k,a,w,_,h=>h
 |o::D,k,a,w,J,h=>by
  have h0:ops[k]? =some o:=by simpa using (J 0).symm
  have K:=LZ (P:=P) (ops:=ops) I D<|k+1;have G :∀j:Nat,D[j]? =ops[k+1+j]? :=λj=>by have:=J<|j+1;simpa [Nat.add_assoc,Nat.add_comm 1 j] using this
  rw[List.length_cons,List.range'_succ];simp only[wpOpsS,h0];unfold wpList at h;split at h
  .rename_i H;rw[if_pos H];rcases h with h|⟨_,a',w',h⟩
   .have h' :=Oper.wp_mono (λa w N=>K a w G N) h;unfold Oper.wp at h';generalize (execOp a.eval o).run P w=r at h' ⊢;split
    .exact h'.elim
    .exact h'
   .exact absurd h<|I _ _
  .rename_i H;rw[if_neg H];exact K _ _ G h
def Km:Code->Code
 | .seq a _=>a
 |c=>c
def Gb:Code->Code
 | .seq _ b=>b
 |c=>c
def FV(cs:List Frame):Value×List Frame:=match recoverD cs with|some (v,j)=>(v,j)|none=>(.nilIface,cs)
def Eb{P:Program}{ops:Array Oper}{Q:Exit->Act->List Frame->World->Prop}{J K:Oper}{l:List Oper}(U:ops.toList=J::K::l)(g0:J.guard=none)(g1:K.guard=none)(e0:J.op= .call {callee:= .builtin .recover,args:= #[],argTypes:= #[]}){I Z:Nat}(f0:J.dst=some I)(f1:K.dst=some Z)
 {T X :TypeId} {b:Bool} (e1:K.op= .typeAssert (.tmp I) T X b) {a:Act} {cs H :List Frame} {w:World} {v x:Value} (hd:I<a.tmps.size) (G:FV cs=(v,H)) (hx:(Instr.typeAssert v T X b).run P w= .ok x w)
 (hQ:∀a w,¬Q .outgrown a H w) (h:wpList P ops (λe a w=>Q e a H w) l ((a.put (some I) v).put (some Z) x) w):wpOpsS P ops Q (List.range ops.size) a cs w:=by
 have W:ops.size=l.length+1+1:=by rw[<- Array.length_toList,U];rfl
 have h0:ops[0]? =some J:=by rw[<- bE,U];rfl
 have h1:ops[1]? =some K:=by rw[<- bE,U];rfl
 rw[List.range_eq_range',W,List.range'_succ,List.range'_succ];have w0:Region.wanted J (yielded ops a.tmps)=true:=by unfold Region.wanted;rw[g0]
 have w1:∀(a:Act),Region.wanted K (yielded ops a.tmps)=true:=λa=>by unfold Region.wanted;rw[g1]
 have r0:(execOp a.eval J).run P w= .ok .recover w:=by simp[execOp,e0,resolve,invoke,builtin]
 have ev:(a.put (some I) v).eval (.tmp I)=v:=by
  show(a.put (some I) v).tmps.getD I Go.undef=v
  rw[jV λe he=>by cases he;exact hd,if_pos rfl]
 have r1:(execOp (a.put (some I) v).eval K).run P w= .ok (.value x) w:=by
  simp only[execOp,e1,ev,Sem.run_bind,hx,Result.andThen_ok,Sem.run_pure]
 have tail:∀N,wpList P ops (λe a w=>Q e a H w) l N w->wpOpsS P ops Q (List.range' (0+1+1) l.length) N H w:=λN hh=>LZ hQ l 2 N w (λj=>by rw[<- bE,U,show 2+j=j+1+1 by omega];rfl) hh
 have D:wpOpsS P ops Q (1::List.range' 2 l.length) (a.put (some I) v) H w:=by
  simp only[wpOpsS,h1,w1,if_true,r1,Oper.upon,f1];exact tail _ h
 show wpOpsS P ops Q (0::1::List.range' 2 l.length) a cs w
 generalize List.range' 2 l.length=q at D
 generalize hq:1::q=q2 at D ⊢
 simp only[wpOpsS,h0,w0,if_true,r0,f0];unfold FV at G;split at G
 .rename_i v' Y V;cases G;rw[V];exact D
 .rename_i V;cases G;rw[V];exact D
def JV{P:Program}{id:Nat}{ops:Array Oper}{G H:Oper}(hl:ops.toList=[G,H])(X:G.guard=none)(Y:H.guard=none){F:FuncId}{p q d:Nat}(T:G.op= .makeFunc (.func F) #[] #[.tmp p,.tmp q])(V:G.dst=some d)(U:H.op= .defer {callee:= .value (.tmp d),args:= #[],argTypes:= #[]})(W:H.dst=none)
 {a:Act} {w:World} {R:Exit->Act->World->Prop} (Z:d<a.tmps.size) (h:R .normal {(a.put (some d)<|.func (.func F) #[] #[a.tmps.getD p Go.undef,a.tmps.getD q Go.undef])with defers:={target:= .fn (.func F) #[a.tmps.getD p Go.undef,a.tmps.getD q Go.undef],args:= #[]}::a.defers} w):(Code.region id ops false).wp P R a w:=by
 refine wp_region_list ?_;rw[hl];have D:(execOp a.eval G).run P w= .ok (.value<|.func (.func F) #[] #[a.tmps.getD p Go.undef,a.tmps.getD q Go.undef]) w:=by simp[execOp,T,Act.eval];rfl
 generalize a.tmps.getD p Go.undef=I at D h ⊢
 generalize a.tmps.getD q Go.undef=J at D h ⊢
 refine wpList_plain X λN j=>?_
 simp only[Oper.wp,D,Oper.upon,V];refine j _ _ ?_;have ev:(a.put (some d)<|.func (.func F) #[] #[I,J]).eval (.tmp d)= .func (.func F) #[] #[I,J]:=by
  show(a.put (some d) _).tmps.getD d Go.undef=_
  rw[jV λe he=>by cases he;exact Z,if_pos rfl]
 have K:(execOp (a.put (some d)<|.func (.func F) #[] #[I,J]).eval H).run P w= .ok (.defer {target:= .fn (.func F) #[I,J],args:= #[]}) w:=by
  simp[execOp,U,resolve,ev,Deferred.ofValue]
 refine wpList_plain Y λN j=>?_
 simp only[Oper.wp,K,Oper.upon,W];refine j _ _ ?_;exact h
