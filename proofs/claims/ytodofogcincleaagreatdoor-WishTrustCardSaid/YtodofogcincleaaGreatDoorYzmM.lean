/-
  One text.
-/
import Derived.Test.YtodofogcincleaaGreatDoorMYka
import Derived.Test.YtodofogcincleaaGreatDoorQdfM
set_option linter.all false
set_option maxRecDepth 100000
namespace Go.Proofs.YtodofogcincleaaGreatDoor
open NQ Go.RowKit
theorem Ka(w:World):(Instr.typeAssert Value.nilIface 20 128 true).run Tryz.prog w= .ok (.tuple #[.agg #[.int .i64 0],.bool false]) w:=by kernel_rfl
theorem Hj(e:Int)(w:World):(Instr.typeAssert (pvW e) 20 128 true).run Tryz.prog w= .ok (.tuple #[.agg #[.int .i64 e],.bool true]) w:=by kernel_rfl
theorem zI{w:World}{O L:Nat->Prop}{σ:Nat->Value}(e:Int)(b:Bool):aG w O L σ (.tuple [.agg [.d (.int .i64 e)],.d (.bool b)]) (.tuple #[.agg #[.int .i64 e],.bool b]):=by
 refine .tuple _ _ rfl λj c hj=>?_
 rcases j with _|_|j
 .cases hj;refine .agg _ _ rfl λj c hj=>?_
  rcases j with _|j
  .cases hj;exact .d _ _ (.int _ _)
  .simp at hj
 .cases hj;exact .d _ _ (.bool _)
 .simp at hj
theorem Ki(p q:Value)(w:World)(hG:jC cx w):CallsD Tryz.prog 61 #[p,q] .returning w λen u' w' =>en= .returned (.tuple #[])/\u' = .returning/\sO (w.heap.size<= ·) w w' :=by
 refine callsD_of_wpS Tryz.func61 rfl λc₀ cs hu=>?_
 apply wpS_seq;apply wpS_region;have hf:Cg (c₀::cs)=(.nilIface,c₀::cs):=by
  unfold Cg recoverD;dsimp only;rw[hu]
 refine AH (l:=_) rfl rfl rfl rfl rfl rfl rfl (by show 5<12;omega) hf (Ka w) (λa w h=>by obtain⟨u',h,_⟩:=h;cases h) ?_
 let E:Env:=⟨(w.heap.size<= ·),λ_=>False,w,12,λ_=>none,[]⟩
 have hs:Sim cx E ⟨[(6,.tuple [.agg [.d (.int .i64 0)],.d (.bool false)])],[]⟩ ((({tmps:= #[p,q]++Array.replicate (12-2) Go.undef,defers:=[]}:Act).put (some 5) .nilIface).put (some 6) (.tuple #[.agg #[.int .i64 0],.bool false])) w:=by
  have h0:bN cx E ⟨[],[]⟩ (λ_=> .nilFunc) {tmps:= #[p,q]++Array.replicate (12-2) Go.undef,defers:=[]} w :=
   ⟨⟨rfl,rfl,rfl,Nat.le_refl _,λ_ _=>rfl⟩,λb hb=>hb,λb hb=>hb.elim,rfl,rfl,λt=> .undef _,⟨λs b hs=>by simp[find]at hs,λs s' b hs=>by simp[live,find]at hs⟩,hG,λg cells hg=>⟨Nat.not_le.2 (hG g cells hg).1,id⟩,λq0 B hB=>by cases hB⟩
  have h1:=(h0.put (d:=some 5) (v:= .undef) (u:= .nilIface) (λe he=>by cases he;show 5<12;omega) (.undef _)).put (d:=some 6) (u:= .tuple #[.agg #[.int .i64 0],.bool false]) (λe he=>by cases he;show 6<12;omega) (zI 0 false);refine⟨_,h1.frame,h1.new,h1.apart,h1.defers,h1.nt,λt=>?_,h1.holds,h1.fI,h1.dQ,h1.fix⟩;have:=h1.aV t;unfold St.get at this ⊢;by_cases e:6=t
  .subst e;exact this
  .rw[bl _ _ e];exact .undef _
 refine qt (cx:=cx) bo (nt:=12) (dr:=false) (E:=E) rfl _ (k:=λst=>vc cx 12 (λ_=>[]) (Cj ((Tryz.f61).body.getD .skip)) (λe s=>e= .normal) st) ?_ hs ?_
 .conv=>whnf
 .intro st' a' w' hk hh;refine wpS_of_wp (Ed bo mixed (E:=E) rfl _ hk hh λe st2 a2 w2 hq ha=>?_);obtain rfl:=hq;obtain⟨τ,ha⟩:=ha;obtain⟨u,hn,ho⟩:=oH bo (fn:=Tryz.f61) ha (v0:= .tuple []) rfl;have hp:u= .tuple #[]:=by
   cases ho with|tuple _ vs hl _ =>
    have:vs= #[]:=Array.eq_empty_of_size_eq_zero (by rw[hl];rfl);rw[this]
  subst hp;exact⟨ha.defers,.returning,by rw[<- hu],_,hn,rfl,rfl,ha.frame⟩
theorem Kh(e:Int)(B8 B9:Nat)(hc hd:Array Value)(t8 t9:TypeId)(w:World)(hG:jC cx w)(hr:∀g cells,cx.gl g=some cells->g≠B8/\g≠B9)(h8:w.heap[B8]? =some (.cells hc t8 (0,0)))(h9:w.heap[B9]? =some (.cells hd t9 (0,0)))(s8:hc.size=1)(s9:hd.size=1)(ht:B8≠B9) :
 CallsD Tryz.prog 61 #[.pointer (some ⟨B8,0,none⟩),.pointer (some ⟨B9,0,none⟩)] (.panicking [{v:=pvW e,recovered:=false}]) w λen u' w' =>en= .returned (.tuple #[])/\u' = .panicking [{v:=pvW e,recovered:=true}]/\sO (λb=>b=B8\/b=B9\/w.heap.size<=b) w w' /\
  (∃cur t,w'.heap[B8]? =some (.cells cur t (0,0))/\cur.size=1/\cur.getD 0 Go.undef= .slice none 0 0)/\ ∃cur t,w'.heap[B9]? =some (.cells cur t (0,0))/\cur.size=1/\cur.getD 0 Go.undef= .int .i64 e:=by
 refine callsD_of_wpS Tryz.func61 rfl λc₀ cs hu=>?_
 apply wpS_seq;apply wpS_region;have hf:Cg (c₀::cs)=(pvW e,{c₀ with mode:= .panicking [{v:=pvW e,recovered:=true}]}::cs):=by
  unfold Cg recoverD;dsimp only;rw[hu]
 refine AH (l:=_) rfl rfl rfl rfl rfl rfl rfl (by show 5<12;omega) hf (Hj e w) (λa w h=>by obtain⟨u',h,_⟩:=h;cases h) ?_
 let E:Env:=⟨λb=>b=B8\/b=B9\/w.heap.size<=b,λ_=>False,w,12,λq=>if q=100008 then some B8 else if q=100009 then some B9 else none,[]⟩
 let σ:Nat->Value:=λs=>if s=100008 then .pointer (some ⟨B8,0,none⟩)else .pointer (some ⟨B9,0,none⟩)
 have l8:B8<w.heap.size:=(bI.1 h8).1;have l9:B9<w.heap.size:=(bI.1 h9).1;have hi:∀s,live [(100008,Blk.box [.undef]),(100009,Blk.box [.undef])] s->s=100008\/s=100009:=λs hs=>by
  rcases cJ (bs:=[(100008,Blk.box [.undef])]) (h:=[(100009,Blk.box [.undef])]) |>.1 hs with h|h
  .exact .inl (cv.1 h)
  .exact .inr (cv.1 h)
 have hs:Sim cx E ⟨[(6,.tuple [.agg [.d (.int .i64 e)],.d (.bool true)]),(0,.ptr 100008 0),(1,.ptr 100009 0)],[(100008,.box [.undef]),(100009,.box [.undef])]⟩ ((({tmps:= #[.pointer (some ⟨B8,0,none⟩),.pointer (some ⟨B9,0,none⟩)]++Array.replicate (12-2) Go.undef,defers:=[]}:Act).put (some 5) (pvW e)).put (some 6) (.tuple #[.agg #[.int .i64 e],.bool true])) w:=by
  have h0:bN cx E ⟨[(0,.ptr 100008 0),(1,.ptr 100009 0)],[(100008,.box [.undef]),(100009,.box [.undef])]⟩ σ {tmps:= #[.pointer (some ⟨B8,0,none⟩),.pointer (some ⟨B9,0,none⟩)]++Array.replicate (12-2) Go.undef,defers:=[]} w:=by
   refine⟨⟨rfl,rfl,rfl,Nat.le_refl _,λ_ _=>rfl⟩,λb hb=> .inr (.inr hb),λb hb=>hb.elim,rfl,rfl,λt=>?_,⟨λs b hs=>?_,λs s' b hs hh e1 e2=>?_⟩,hG,λg cells hg=>⟨λhF=>?_,id⟩,λq0 B hB=>?_⟩
   .unfold St.get;by_cases e0:0=t
    .subst e0;exact .ptr 100008 0 B8 (by unfold live;rfl) rfl
    .rw[bl _ _ e0];by_cases e1:1=t
     .subst e1;exact .ptr 100009 0 B9 (by unfold live;rfl) rfl
     .rw[bl _ _ e1];exact .undef _
   .rcases hi s (aH.2 ⟨b,hs⟩)with rfl|rfl
    .cases hs;exact⟨B8,hc,t8,rfl,.inl rfl,h8,s8,λj c hj=>by
      rcases j with _|j
      .cases hj;exact⟨.inr rfl,.undef _⟩
      .simp at hj⟩
    .cases hs;exact⟨B9,hd,t9,rfl,.inr (.inl rfl),h9,s9,λj c hj=>by
      rcases j with _|j
      .cases hj;exact⟨.inr rfl,.undef _⟩
      .simp at hj⟩
   .rcases hi s hs with rfl|rfl <;> rcases hi s' hh with rfl|rfl
    .rfl
    .cases e1;cases e2;exact absurd rfl ht
    .cases e1;cases e2;exact absurd rfl ht
    .rfl
   .rcases hF with hF|hF|hF
    .exact(hr g cells hg).1 hF
    .exact(hr g cells hg).2 hF
    .have:=(hG g cells hg).1;have hF:w.heap.size<=g:=hF;omega
   .have hB:(if q0=100008 then some B8 else if q0=100009 then some B9 else none)=some B:=hB;split at hB
    .rename_i e;subst e;cases hB;exact⟨⟨bB rfl,bB rfl⟩,λ_=>rfl⟩
    .split at hB
     .rename_i e;subst e;cases hB;exact⟨⟨bB rfl,bB rfl⟩,λ_=>rfl⟩
     .cases hB
  have h1:=(h0.put (d:=some 5) (v:= .undef) (u:=pvW e) (λe he=>by cases he;show 5<12;omega) (.undef _)).put (d:=some 6) (u:= .tuple #[.agg #[.int .i64 e],.bool true]) (λe he=>by cases he;show 6<12;omega) (zI e true);refine⟨_,h1.frame,h1.new,h1.apart,h1.defers,h1.nt,λt=>?_,h1.holds,h1.fI,h1.dQ,h1.fix⟩;have:=h1.aV t;unfold St.get at this ⊢;by_cases e6:6=t
  .subst e6;exact this
  .rw[bl _ _ e6];by_cases e0:0=t
   .subst e0;exact this
   .rw[bl _ _ e0];by_cases e1:1=t
    .subst e1;exact this
    .rw[bl _ _ e1];exact .undef _
 refine qt (cx:=cx) bo (nt:=12) (dr:=false) (E:=E) rfl _ (k:=λst=>vc cx 12 (fun|2=>[66666]|_=>[]) (Cj ((Tryz.f61).body.getD .skip)) (λe1 s=>e1= .normal/\aK cx s ⟨[],[(100008,.box [.nil 1]),(100009,.box [.d (.int .i64 e)])]⟩) st) ?_ hs ?_
 .conv=>whnf
  (refine cu ?_;conv=>whnf)
  repeat' (first|(refine cO ?_;conv=>whnf)|exact⟨rfl,aK.keep trivial⟩|(refine And.intro ?_ ?_ <;> (conv=>whnf)))
 .intro st' a' w' hk hh;refine wpS_of_wp (Ed bo mixed (E:=E) rfl _ hk hh λe st2 a2 w2 hq ha=>?_);obtain⟨rfl,hq⟩:=hq;obtain⟨τ,ha⟩:=hq E a2 w2 ha;obtain⟨u,hn,ho⟩:=oH bo (fn:=Tryz.f61) ha (v0:= .tuple []) rfl;have hp:u= .tuple #[]:=by
   cases ho with|tuple _ vs hl _ =>
    have:vs= #[]:=Array.eq_empty_of_size_eq_zero (by rw[hl];rfl);rw[this]
  subst hp;have x8:=(ha.fix 100008 B8 rfl).2 (by unfold live;rfl);have x9:=(ha.fix 100009 B9 rfl).2 (by unfold live;rfl);obtain⟨b8,c8,u8,p8,_,q8,r8,z8⟩:=ha.holds.blk 100008 _ rfl;obtain⟨b9,c9,u9,p9,_,q9,r9,z9⟩:=ha.holds.blk 100009 _ rfl;rw[x8]at p8;cases p8;rw[x9]at p9;cases p9;refine⟨ha.defers,.panicking [{v:=pvW e,recovered:=true}],rfl,_,hn,rfl,rfl,ha.frame,⟨c8,u8,q8,r8,?_⟩,c9,u9,q9,r9,?_⟩
  .have:=(z8 0 _ rfl).2;generalize c8.getD 0 Go.undef=v at this;cases this;rfl
  .exact(z9 0 _ rfl).2.int
end Go.Proofs.YtodofogcincleaaGreatDoor
