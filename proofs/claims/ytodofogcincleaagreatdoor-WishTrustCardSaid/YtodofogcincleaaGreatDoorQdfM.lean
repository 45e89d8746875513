/-
  One text.
-/
import Derived.Test.YtodofogcincleaaGreatDoorMQbs
import Derived.Recover
set_option linter.all false
namespace NQ
open Go Go.RowKit
theorem GZ{P:Program}{ops:Array Oper}{Q:Exit->Act->List Frame->World->Prop}{cs:List Frame}(hQ:∀a w,¬Q .outgrown a cs w):∀(l:List Oper) (k:Nat) (a:Act) (w:World),(∀j:Nat,l[j]? =ops[k+j]?)->wpList P ops (λe a w=>Q e a cs w) l a w->wpOpsS P ops Q (List.range' k l.length) a cs w
 |[],k,a,w,_,h=>h
 |o::rest,k,a,w,hl,h=>by
  have h0:ops[k]? =some o:=by simpa using (hl 0).symm
  have ih:=GZ (P:=P) (ops:=ops) hQ rest (k+1);have hf :∀j:Nat,rest[j]? =ops[k+1+j]? :=λj=>by have:=hl (j+1);simpa [Nat.add_assoc,Nat.add_comm 1 j] using this
  rw[List.length_cons,List.range'_succ];simp only[wpOpsS,h0];unfold wpList at h;split at h
  .rename_i hw;rw[if_pos hw];rcases h with h|⟨_,a',w',h⟩
   .have h' :=Oper.wp_mono (λa w hk=>ih a w hf hk) h;unfold Oper.wp at h';generalize (execOp a.eval o).run P w=r at h' ⊢;split
    .exact h'.elim
    .exact h'
   .exact absurd h (hQ _ _)
  .rename_i hw;rw[if_neg hw];exact ih _ _ hf h
def Fx:Code->Code
 | .seq a _=>a
 |c=>c
def Cj:Code->Code
 | .seq _ b=>b
 |c=>c
def Cg(cs:List Frame):Value×List Frame:=match recoverD cs with|some (v,cs')=>(v,cs')|none=>(.nilIface,cs)
theorem AH{P:Program}{ops:Array Oper}{Q:Exit->Act->List Frame->World->Prop}{o0 o1:Oper}{l:List Oper}(hl:ops.toList=o0::o1::l)(g0:o0.guard=none)(g1:o1.guard=none)(e0:o0.op= .call {callee:= .builtin .recover,args:= #[],argTypes:= #[]}){d0 d1:Nat}(f0:o0.dst=some d0)(f1:o1.dst=some d1)
 {T T' :TypeId} {b:Bool} (e1:o1.op= .typeAssert (.tmp d0) T T' b) {a:Act} {cs cs' :List Frame} {w:World} {v x:Value} (hd:d0<a.tmps.size) (ha:Cg cs=(v,cs')) (hx:(Instr.typeAssert v T T' b).run P w= .ok x w)
 (hQ:∀a w,¬Q .outgrown a cs' w) (h:wpList P ops (λe a w=>Q e a cs' w) l ((a.put (some d0) v).put (some d1) x) w):wpOpsS P ops Q (List.range ops.size) a cs w:=by
 have hi:ops.size=l.length+1+1:=by rw[<- Array.length_toList,hl];rfl
 have h0:ops[0]? =some o0:=by rw[<- bx,hl];rfl
 have h1:ops[1]? =some o1:=by rw[<- bx,hl];rfl
 rw[List.range_eq_range',hi,List.range'_succ,List.range'_succ];have w0:Region.wanted o0 (yielded ops a.tmps)=true:=by unfold Region.wanted;rw[g0]
 have w1:∀(a:Act),Region.wanted o1 (yielded ops a.tmps)=true:=λa=>by unfold Region.wanted;rw[g1]
 have r0:(execOp a.eval o0).run P w= .ok .recover w:=by simp[execOp,e0,resolve,invoke,builtin]
 have ev:(a.put (some d0) v).eval (.tmp d0)=v:=by
  show(a.put (some d0) v).tmps.getD d0 Go.undef=v
  rw[iP (λe he=>by cases he;exact hd),if_pos rfl]
 have r1:(execOp (a.put (some d0) v).eval o1).run P w= .ok (.value x) w:=by
  simp only[execOp,e1,ev,Sem.run_bind,hx,Result.andThen_ok,Sem.run_pure]
 have tail:∀a',wpList P ops (λe a w=>Q e a cs' w) l a' w->wpOpsS P ops Q (List.range' (0+1+1) l.length) a' cs' w:=λa' hh=>GZ hQ l 2 a' w (λj=>by rw[<- bx,hl,show 2+j=j+1+1 by omega];rfl) hh
 have second:wpOpsS P ops Q (1::List.range' 2 l.length) (a.put (some d0) v) cs' w:=by
  simp only[wpOpsS,h1,w1,if_true,r1,Oper.upon,f1];exact tail _ h
 show wpOpsS P ops Q (0::1::List.range' 2 l.length) a cs w
 generalize List.range' 2 l.length=q at second
 generalize hq:1::q=q2 at second ⊢
 simp only[wpOpsS,h0,w0,if_true,r0,f0];unfold Cg at ha;split at ha
 .rename_i v' hg hr;cases ha;rw[hr];exact second
 .rename_i hr;cases ha;rw[hr];exact second
theorem Fc{P:Program}{id:Nat}{ops:Array Oper}{o1 o2:Oper}(hl:ops.toList=[o1,o2])(g1:o1.guard=none)(g2:o2.guard=none){F:FuncId}{p q d:Nat}(e1:o1.op= .makeFunc (.func F) #[] #[.tmp p,.tmp q])(f1:o1.dst=some d)(e2:o2.op= .defer {callee:= .value (.tmp d),args:= #[],argTypes:= #[]})(f2:o2.dst=none)
 {a:Act} {w:World} {R:Exit->Act->World->Prop} (hd:d<a.tmps.size) (h:R .normal {(a.put (some d) (.func (.func F) #[] #[a.tmps.getD p Go.undef,a.tmps.getD q Go.undef]))with defers:={target:= .fn (.func F) #[a.tmps.getD p Go.undef,a.tmps.getD q Go.undef],args:= #[]}::a.defers} w):(Code.region id ops false).wp P R a w:=by
 refine wp_region_list ?_;rw[hl];have hc:(execOp a.eval o1).run P w= .ok (.value (.func (.func F) #[] #[a.tmps.getD p Go.undef,a.tmps.getD q Go.undef])) w:=by simp[execOp,e1,Act.eval];rfl
 generalize a.tmps.getD p Go.undef=vp at hc h ⊢
 generalize a.tmps.getD q Go.undef=vq at hc h ⊢
 refine wpList_plain g1 λK1 hb=>?_
 simp only[Oper.wp,hc,Oper.upon,f1];refine hb _ _ ?_;have ev:(a.put (some d) (.func (.func F) #[] #[vp,vq])).eval (.tmp d)= .func (.func F) #[] #[vp,vq]:=by
  show(a.put (some d) _).tmps.getD d Go.undef=_
  rw[iP (λe he=>by cases he;exact hd),if_pos rfl]
 have hj:(execOp (a.put (some d) (.func (.func F) #[] #[vp,vq])).eval o2).run P w= .ok (.defer {target:= .fn (.func F) #[vp,vq],args:= #[]}) w:=by
  simp[execOp,e2,resolve,ev,Deferred.ofValue]
 refine wpList_plain g2 λK1 hb=>?_
 simp only[Oper.wp,hj,Oper.upon,f2];refine hb _ _ ?_;exact h
end NQ
