/-
  One text.
-/
import Derived.Test.YtodofogcincleaaGreatDoorMYka
import Derived.Test.YtodofogcincleaaGreatDoorQdfM
set_option linter.all false
set_option maxRecDepth 100000
namespace Go.Proofs.YtodofogcincleaaGreatDoor
open NQ Go NP Go.RowKit
theorem Ig(w:World):(Instr.typeAssert Value.nilIface 20 128 true).run Tryz.prog w= .ok (.tuple #[.agg #[.int .i64 0],.bool false]) w:=by kernel_rfl
theorem Fu(e:Int)(w:World):(Instr.typeAssert (pvW e) 20 128 true).run Tryz.prog w= .ok (.tuple #[.agg #[.int .i64 e],.bool true]) w:=by kernel_rfl
theorem yd{w:World}{O L:Nat->Prop}{σ:Nat->Value}(e:Int)(b:Bool):au w O L σ (.tuple [.agg [.d (.int .i64 e)],.d (.bool b)]) (.tuple #[.agg #[.int .i64 e],.bool b]):=by
 refine .tuple _ _ rfl λj c hj=>?_
 rcases j with _|_|j
 . cases hj;refine .agg _ _ rfl λj c hj=>?_
   rcases j with _|j
   . cases hj;exact .d _ _ (.int _ _)
   . simp at hj
 . cases hj;exact .d _ _ (.bool _)
 . simp at hj
theorem Io(p q:Value)(w:World)(hG:iN cx w):CallsD Tryz.prog 61 #[p,q] .returning w λen u' w' =>en= .returned (.tuple #[])/\u' = .returning/\rO (w.heap.size<= ·) w w' :=by
 refine callsD_of_wpS Tryz.func61 rfl λc₀ cs hu=>?_
 apply wpS_seq;apply wpS_region;have hrec:AH (c₀::cs)=(.nilIface,c₀::cs):=by
  unfold AH recoverD;dsimp only;rw[hu]
 refine za (l:=_) rfl rfl rfl rfl rfl rfl rfl (by show 5<12;omega) hrec (Ig w) (λa w h=>by obtain⟨u',h,_⟩:=h;cases h) ?_
 let E:Env:=⟨(w.heap.size<= ·),λ_=>False,w,12,λ_=>none,[]⟩
 have hs:Sim cx E ⟨[(6,.tuple [.agg [.d (.int .i64 0)],.d (.bool false)])],[]⟩ ((({tmps:= #[p,q]++Array.replicate (12-2) Go.undef,defers:=[]}:Act).put (some 5) .nilIface).put (some 6) (.tuple #[.agg #[.int .i64 0],.bool false])) w:=by
  have h0:bq cx E ⟨[],[]⟩ (λ_=> .nilFunc) {tmps:= #[p,q]++Array.replicate (12-2) Go.undef,defers:=[]} w :=
   ⟨⟨rfl,rfl,rfl,Nat.le_refl _,λ_ _=>rfl⟩,λb hb=>hb,λb hb=>hb.elim,rfl,rfl,λt=> .undef _,⟨λs b hs=>by simp[find]at hs,λs s' b hs=>by simp[live,find]at hs⟩,hG,λg cells hg=>⟨Nat.not_le.2 (hG g cells hg).1,id⟩,λq0 B hB=>by cases hB⟩
  have h1:=(h0.put (d:=some 5) (v:= .undef) (u:= .nilIface) (λe he=>by cases he;show 5<12;omega) (.undef _)).put (d:=some 6) (u:= .tuple #[.agg #[.int .i64 0],.bool false]) (λe he=>by cases he;show 6<12;omega) (yd 0 false);refine⟨_,h1.frame,h1.new,h1.apart,h1.defers,h1.nt,λt=>?_,h1.holds,h1.glob,h1.globF,h1.fix⟩;have:=h1.slots t;unfold St.get at this ⊢;by_cases e:6=t
  . subst e;exact this
  . rw[aQ _ _ e];exact .undef _
 refine pF (cx:=cx) aV (nt:=12) (dr:=false) (E:=E) rfl _ (k:=λst=>vc cx 12 (λ_=>[]) (AK ((Tryz.f61).body.getD .skip)) (λe s=>e= .normal) st) ?_ hs ?_
 . conv=>whnf
 . intro st' a' w' hk hs';refine wpS_of_wp (CC aV mixed (E:=E) rfl _ hk hs' λe st2 a2 w2 hq hs2=>?_);obtain rfl:=hq;obtain⟨τ,hs2⟩:=hs2;obtain⟨u,hu1,hu2⟩:=nJ aV (fn:=Tryz.f61) hs2 (v0:= .tuple []) rfl;have hu3:u= .tuple #[]:=by
    cases hu2 with|tuple _ vs hl _ =>
     have:vs= #[]:=Array.eq_empty_of_size_eq_zero (by rw[hl];rfl);rw[this]
   subst hu3;exact⟨hs2.defers,.returning,by rw[<- hu],_,hu1,rfl,rfl,hs2.frame⟩
theorem Im(e:Int)(B8 B9:Nat)(cur8 cur9:Array Value)(t8 t9:TypeId)(w:World)(hG:iN cx w)(hGb:∀g cells,cx.gl g=some cells->g≠B8/\g≠B9)(h8:w.heap[B8]? =some (.cells cur8 t8 (0,0)))(h9:w.heap[B9]? =some (.cells cur9 t9 (0,0)))(s8:cur8.size=1)(s9:cur9.size=1)(hne:B8≠B9) :
 CallsD Tryz.prog 61 #[.pointer (some ⟨B8,0,none⟩),.pointer (some ⟨B9,0,none⟩)] (.panicking [{v:=pvW e,recovered:=false}]) w λen u' w' =>en= .returned (.tuple #[])/\u' = .panicking [{v:=pvW e,recovered:=true}]/\rO (λb=>b=B8\/b=B9\/w.heap.size<=b) w w' /\
  (∃cur t,w'.heap[B8]? =some (.cells cur t (0,0))/\cur.size=1/\cur.getD 0 Go.undef= .slice none 0 0)/\ ∃cur t,w'.heap[B9]? =some (.cells cur t (0,0))/\cur.size=1/\cur.getD 0 Go.undef= .int .i64 e:=by
 refine callsD_of_wpS Tryz.func61 rfl λc₀ cs hu=>?_
 apply wpS_seq;apply wpS_region;have hrec:AH (c₀::cs)=(pvW e,{c₀ with mode:= .panicking [{v:=pvW e,recovered:=true}]}::cs):=by
  unfold AH recoverD;dsimp only;rw[hu]
 refine za (l:=_) rfl rfl rfl rfl rfl rfl rfl (by show 5<12;omega) hrec (Fu e w) (λa w h=>by obtain⟨u',h,_⟩:=h;cases h) ?_
 let E:Env:=⟨λb=>b=B8\/b=B9\/w.heap.size<=b,λ_=>False,w,12,λq=>if q=100008 then some B8 else if q=100009 then some B9 else none,[]⟩
 let σ:Nat->Value:=λs=>if s=100008 then .pointer (some ⟨B8,0,none⟩)else .pointer (some ⟨B9,0,none⟩)
 have l8:B8<w.heap.size:=(bj.1 h8).1;have l9:B9<w.heap.size:=(bj.1 h9).1;have hlv:∀s,live [(100008,Blk.box [.undef]),(100009,Blk.box [.undef])] s->s=100008\/s=100009:=λs hs=>by
  rcases bW (bs:=[(100008,Blk.box [.undef])]) (h:=[(100009,Blk.box [.undef])]) |>.1 hs with h|h
  . exact .inl (bH.1 h)
  . exact .inr (bH.1 h)
 have hs:Sim cx E ⟨[(6,.tuple [.agg [.d (.int .i64 e)],.d (.bool true)]),(0,.ptr 100008 0),(1,.ptr 100009 0)],[(100008,.box [.undef]),(100009,.box [.undef])]⟩ ((({tmps:= #[.pointer (some ⟨B8,0,none⟩),.pointer (some ⟨B9,0,none⟩)]++Array.replicate (12-2) Go.undef,defers:=[]}:Act).put (some 5) (pvW e)).put (some 6) (.tuple #[.agg #[.int .i64 e],.bool true])) w:=by
  have h0:bq cx E ⟨[(0,.ptr 100008 0),(1,.ptr 100009 0)],[(100008,.box [.undef]),(100009,.box [.undef])]⟩ σ {tmps:= #[.pointer (some ⟨B8,0,none⟩),.pointer (some ⟨B9,0,none⟩)]++Array.replicate (12-2) Go.undef,defers:=[]} w:=by
   refine⟨⟨rfl,rfl,rfl,Nat.le_refl _,λ_ _=>rfl⟩,λb hb=> .inr (.inr hb),λb hb=>hb.elim,rfl,rfl,λt=>?_,⟨λs b hs=>?_,λs s' b hs hs' e1 e2=>?_⟩,hG,λg cells hg=>⟨λhF=>?_,id⟩,λq0 B hB=>?_⟩
   . unfold St.get;by_cases e0:0=t
     . subst e0;exact .ptr 100008 0 B8 (by unfold live;rfl) rfl
     . rw[aQ _ _ e0];by_cases e1:1=t
       . subst e1;exact .ptr 100009 0 B9 (by unfold live;rfl) rfl
       . rw[aQ _ _ e1];exact .undef _
   . rcases hlv s (ax.2 ⟨b,hs⟩)with rfl|rfl
     . cases hs;exact⟨B8,cur8,t8,rfl,.inl rfl,h8,s8,λj c hj=>by
        rcases j with _|j
        . cases hj;exact⟨.inr rfl,.undef _⟩
        . simp at hj⟩
     . cases hs;exact⟨B9,cur9,t9,rfl,.inr (.inl rfl),h9,s9,λj c hj=>by
        rcases j with _|j
        . cases hj;exact⟨.inr rfl,.undef _⟩
        . simp at hj⟩
   . rcases hlv s hs with rfl|rfl <;> rcases hlv s' hs' with rfl|rfl
     . rfl
     . cases e1;cases e2;exact absurd rfl hne
     . cases e1;cases e2;exact absurd rfl hne
     . rfl
   . rcases hF with hF|hF|hF
     . exact(hGb g cells hg).1 hF
     . exact(hGb g cells hg).2 hF
     . have:=(hG g cells hg).1;have hF:w.heap.size<=g:=hF;omega
   . have hB:(if q0=100008 then some B8 else if q0=100009 then some B9 else none)=some B:=hB;split at hB
     . rename_i e;subst e;cases hB;exact⟨⟨ag rfl,ag rfl⟩,λ_=>rfl⟩
     . split at hB
       . rename_i e;subst e;cases hB;exact⟨⟨ag rfl,ag rfl⟩,λ_=>rfl⟩
       . cases hB
  have h1:=(h0.put (d:=some 5) (v:= .undef) (u:=pvW e) (λe he=>by cases he;show 5<12;omega) (.undef _)).put (d:=some 6) (u:= .tuple #[.agg #[.int .i64 e],.bool true]) (λe he=>by cases he;show 6<12;omega) (yd e true);refine⟨_,h1.frame,h1.new,h1.apart,h1.defers,h1.nt,λt=>?_,h1.holds,h1.glob,h1.globF,h1.fix⟩;have:=h1.slots t;unfold St.get at this ⊢;by_cases e6:6=t
  . subst e6;exact this
  . rw[aQ _ _ e6];by_cases e0:0=t
    . subst e0;exact this
    . rw[aQ _ _ e0];by_cases e1:1=t
      . subst e1;exact this
      . rw[aQ _ _ e1];exact .undef _
 refine pF (cx:=cx) aV (nt:=12) (dr:=false) (E:=E) rfl _ (k:=λst=>vc cx 12 (fun|2=>[66666]|_=>[]) (AK ((Tryz.f61).body.getD .skip)) (λe1 s=>e1= .normal/\aF cx s ⟨[],[(100008,.box [.nil 1]),(100009,.box [.d (.int .i64 e)])]⟩) st) ?_ hs ?_
 . conv=>whnf
   (refine⟨(by kernel_rfl:bA _=true),?_⟩;conv=>whnf)
   repeat' (first|(refine And.intro (by kernel_rfl:NQ.viewAt _ _ _ _=NQ.viewAt _ _ _ _) ?_;conv=>whnf)|exact⟨rfl,aF.keep trivial⟩|(refine And.intro ?_ ?_ <;> (conv=>whnf)))
 . intro st' a' w' hk hs';refine wpS_of_wp (CC aV mixed (E:=E) rfl _ hk hs' λe st2 a2 w2 hq hs2=>?_);obtain⟨rfl,hq⟩:=hq;obtain⟨τ,hs2⟩:=hq E a2 w2 hs2;obtain⟨u,hu1,hu2⟩:=nJ aV (fn:=Tryz.f61) hs2 (v0:= .tuple []) rfl;have hu3:u= .tuple #[]:=by
    cases hu2 with|tuple _ vs hl _ =>
     have:vs= #[]:=Array.eq_empty_of_size_eq_zero (by rw[hl];rfl);rw[this]
   subst hu3;have x8:=(hs2.fix 100008 B8 rfl).2 (by unfold live;rfl);have x9:=(hs2.fix 100009 B9 rfl).2 (by unfold live;rfl);obtain⟨b8,c8,u8,p8,_,q8,r8,z8⟩:=hs2.holds.blk 100008 _ rfl;obtain⟨b9,c9,u9,p9,_,q9,r9,z9⟩:=hs2.holds.blk 100009 _ rfl;rw[x8]at p8;cases p8;rw[x9]at p9;cases p9;refine⟨hs2.defers,.panicking [{v:=pvW e,recovered:=true}],rfl,_,hu1,rfl,rfl,hs2.frame,⟨c8,u8,q8,r8,?_⟩,c9,u9,q9,r9,?_⟩
   . have:=(z8 0 _ rfl).2;generalize c8.getD 0 Go.undef=v at this;cases this;rfl
   . exact(z9 0 _ rfl).2.int
end Go.Proofs.YtodofogcincleaaGreatDoor
