/-
  Package loops on plain data: what it asks of the library: keys of maps, sorting names, compacting, turning round.
-/
import Derived.Test.YtjapjahfllomkaaGreatDoorAbM
import Derived.Test.YtjapjahfllomkaaGreatDoorIaM
import Derived.Test.YtjapjahfllomkaaGreatDoorQmlM
import Derived.Test.YtjapjahfllomkaaGreatDoorSortM
import Derived.Test.YtjapjahfllomkaaGreatDoorMGk
import Derived.Lib.RowBridge
set_option linter.all false
set_option maxRecDepth 100000
namespace NQ
open Go Go.RowKit Go.Sort Go.Proofs Go.Shelf
theorem yN{O:Nat->Prop}{σ:Nat->Value}{b:Nat}(h:Own O (live []) σ b):O b:=by
 rcases h with h | ⟨s,hs,_⟩
 . exact h
 . simp[live,find]at hs
theorem holds_nil{w:World}{F O:Nat->Prop}{σ:Nat->Value}:Holds w F O [] σ:=⟨fun s b hs=>by simp[find]at hs,fun s s' b hs=>by simp[live,find]at hs⟩
theorem Ly{w:World}{O:Nat->Prop}{l:List (List UInt8)}{v:Value}{base:Nat}{e:TypeId}{xs:List Value}(hrow:w.ownsRow base e 1 v l.length xs)(hO:∀b,home v=some b-> ¬O b)
 (h:∀i r j d,(l.map om)[i]? =some r->r[j]? =some d-> ∃u,xs[i*1+j]? =some u/\Rep w O d u):Rep w O (.slice 1 (l.map om)) v:=by
 rcases hrow with ⟨hxl,⟨rfl,hz⟩ | ⟨g,cap,cur,rfl,_,hg,h1,h2,h3,h4⟩⟩
 . obtain rfl:l=[]:=List.eq_nil_of_length_eq_zero hz;exact .empty _ _ _
 . rw[Nat.mul_one]at h4 h3 hxl;have hget:∀(i:Nat) r (j:Nat) d,(l.map om)[i]? =some r->r[j]? =some d->w.cell? ⟨g,0+i*1+j,none⟩=some (xs.getD (i*1+j) Go.undef)/\Rep w O d (xs.getD (i*1+j) Go.undef):=by
    intro i r j d hi hj;obtain⟨u,hu,hd⟩:=h i r j d hi hj;have hx:xs.getD (i*1+j) Go.undef=u:=by unfold List.getD;rw[hu];rfl
    rw[hx];refine⟨?_,hd⟩;have hlt:i*1+j<l.length:=by rw[<- hxl];exact(av.1 hu).1
    have hc:cur[i*1+j]? =some u:=by
     have:=congrArg (fun l:List Value=>l[i*1+j]?) h4;simp only[List.getElem?_take,bl]at this;rw[if_pos hlt,hu]at this;exact this
    simp only[World.cell?,hg,Nat.zero_add];exact hc
   refine .slice 1 (l.map om) g 0 _ cap (fun i j=>xs.getD (i*1+j) Go.undef) (by rw[ao]) (hO g rfl) (bA.1 hg).1 h1 (fun r hr=>?_) (fun i r j d hi hj=>(hget i r j d hi hj).1) (fun i r j d hi hj=>(hget i r j d hi hj).2);obtain⟨s,_,rfl⟩:=List.mem_map.1 hr;exact⟨rfl,fun d hd=>by rw[List.mem_singleton.1 hd];rfl⟩
end NQ
namespace NP
open NQ Go
abbrev Kh(l:List Bs):List Bs:=Lib.compact l
end NP
namespace Go.Proofs.YtjapjahfllomkaaGreatDoor
open NQ Go NP Go.RowKit Go.Sort Go.Proofs Go.Shelf
theorem Bd(a b:Bs):NQ.Fn cx 135 [.str a, .str b] (.d (.int .i64 (bP a b).1)) []:=by
 refine aP bf mixed Tryz.func135 (by kernel_rfl) rfl (ai rfl) ?_;conv=>whnf
 (refine⟨_,_,ra a b,?_⟩;conv=>whnf)
 exact af rfl rfl
theorem vF(l:List Bs)(hv:∀a∈l,an a=true)(hl:l.length<=100000)(fl:Bool):FnR cx 169 false 9 1 (l.map au) fl [.fn 135 [] []] ((gE l).map au):=by
 rw[<- D8 hv];exact Jl (cx:=cx) (ρ:=Tryz.vE) Tryz.NA ⟨_,Tryz.func169,by kernel_rfl,rfl⟩
  (fun x y hx hy=>by
   obtain⟨a,ha,ea⟩:=List.mem_map.1 hx;obtain⟨b,hb,eb⟩:=List.mem_map.1 hy;cases ea;cases eb;exact Bd a b) (enters_of Tryz.func135 (by kernel_rfl) rfl) (Hq hv) (by rw[ao];omega)
theorem Dl(l:List Bs)(hl:l.length<=100000)(fl:Bool):FnR cx 170 true 9 1 (l.map au) fl [] ((Kh l).map au) :=
 EG ⟨_,Tryz.func170,by kernel_rfl,rfl⟩ (fun h=>by subst h;rfl) (Go.Lib.compact_length_le l) (fun h=>by cases h) (fun _ p cap w=>Tryz.slices_Compact_string_empty p cap w)
  (fun hn B cap w hH hc=>(Tryz.slices_Compact_string B 0 cap l w hH (by omega) hc).mono fun en w' ⟨h1,q,h2⟩=>⟨h1,q,_,by have:=Go.Lib.compact_length_le l;rw[List.length_replicate];show(Go.Lib.compact l).length+_=_;omega,h2⟩)
theorem D2(l:List Bs)(hl:l.length<=100000)(fl:Bool):FnR cx 130 false 9 1 (l.map au) fl [] (l.reverse.map au) :=
 EG ⟨_,Tryz.func130,by kernel_rfl,rfl⟩ (fun h=>by subst h;rfl) (by simp) (fun _=>by simp) (fun _ p cap w=>Tryz.slices_Reverse_string_empty p cap w)
  (fun hn B cap w hH hc=>(Tryz.slices_Reverse_string B 0 cap l w hH (by omega)).mono fun en w' ⟨h1,q,h2⟩=>⟨h1,q,[],by simp,by simpa using h2⟩)
theorem M0(m:List (Bs×D)):NQ.Fn cx 134 [.kmap (m.map iH)] (.d (.fn 199 [] [.ptr [.kmap (m.map iH)]])) []:=by
 refine⟨⟨_,Tryz.func134,by kernel_rfl,rfl⟩,fun O w vs hO hG hGO hsz hargs=>?_⟩;have h0:=hargs 0 _ rfl;rw[mF hsz];generalize vs.getD 0 Go.undef=u at h0;obtain⟨b,_,_,rfl,_⟩:=h0.x5;refine(callsIn_wide.1 (AnyZ.keys_in Tryz.EJ Fence.wide 5 trivial rfl (some b) w)).mono ?_;rintro e w' ⟨rfl,rfl⟩;refine⟨_,fun _=> .nilFunc,rfl,iq _ _,holds_nil, .d _ _ (.fn _ _ _ _ _ rfl rfl (fun j d hj=>by simp at hj) (fun j d hj=>?_) (fun j m hj=>?_))⟩
 . rcases j with _ | j
   . cases hj;refine .ptr _ w.heap.size 0 (fun _=> .map (some b)) (fun h=>?_) (by simp) (fun d hd=>by rw[List.mem_singleton.1 hd];rfl) (fun j d hj=>?_) (fun j d hj=>?_)
     . exact absurd (hO _ (yN h)) (Nat.lt_irrefl _)
     . rcases j with _ | j
       . show(w.alloc (.cells #[.map (some b)] _)).cell? ⟨w.heap.size,0,none⟩=_
         unfold World.cell?;rw[heap_alloc_new];rfl
       . simp at hj
     . rcases j with _ | j
       . cases hj;exact h0.mono ⟨by simp,fun x _ hx=>heap_alloc_old w _ hx,fun x hx _ hn=>hx (yN hn)⟩
       . simp at hj
   . simp at hj
 . rcases j with _ | j
   . exact⟨_,rfl⟩
   . simp at hj
set_option maxHeartbeats 1000000 in
theorem Az(m:List (Bs×D))(hnd:(m.map (·.1)).Nodup)(hv:∀p∈m,an p.1=true)(hn:m.length<=100000) :
 NQ.Fn cx 133 [.fn 199 [] [.ptr [.kmap (m.map iH)]], .fn 135 [] []] (.d (.slice 1 ((gE (m.map (·.1))).map au))) []:=by
 refine⟨⟨_,Tryz.func133,by kernel_rfl,rfl⟩,fun O w vs hO hG hGO hsz hargs=>?_⟩;have h0:=hargs 0 _ rfl;have h1:=hargs 1 _ rfl;rw[oL hsz];generalize vs.getD 0 Go.undef=u0 at h0;generalize vs.getD 1 Go.undef=u1 at h1;cases h0 with | fn _ _ _ xs0 cb hx0 hcl g1 g2 g3 =>
 obtain rfl:xs0= #[]:=Array.eq_empty_of_size_eq_zero hx0;obtain⟨Bm,hBm⟩:=g3 0 _ rfl;obtain rfl:cb= #[.pointer (some ⟨Bm,0,none⟩)]:=by rw[mF hcl,hBm]
 have hp:Rep w O (.ptr [.kmap (m.map iH)]) (.pointer (some ⟨Bm,0,none⟩)):=g2 0 _ rfl;cases hp with | ptr cells _ _ us hO' hB hone c1 c2 =>
 have hlen:∀p∈m,p.1.length<=maxLen:=fun p hp=>by have:=bD (hv p hp);simp only[maxLen];omega
 have hcol:=BY (P:=cx.P) {Tryz.EJ with} Tryz.FC hB (c1 0 _ rfl) (c2 0 _ rfl) hnd hlen hn;have hcan:=h1;cases h1 with | fn _ _ _ xs1 cb1 hx1 hcl1 _ _ _ =>
 obtain rfl:xs1= #[]:=Array.eq_empty_of_size_eq_zero hx1;obtain rfl:cb1= #[]:=Array.eq_empty_of_size_eq_zero hcl1;show Calls Tryz.prog _ _ _ _
 go_enter Tryz.func133,Tryz.ntmps133
 go_wp2_with (go_at_call 198;refine hcol.mono ?_;rintro e w1 ⟨v,ss,rfl,hperm,hrow,hbel⟩)
 have hss:∀a∈ss,an a=true:=fun a ha=>by
  obtain⟨p,hp,rfl⟩:=List.mem_map.1 (hperm.subset ha);exact hv p hp
 have hsl:ss.length<=100000:=by rw[hperm.length_eq,ao];exact hn
 have hnew:∀g,home v=some g->w.heap.size<=g/\g<w1.heap.size:=fun g hg=>by
  rcases hrow.2 with ⟨rfl,_⟩ | ⟨g',cap,cur,rfl,hb,hg',_⟩
  . cases hg
  . cases hg;exact⟨hb,(bA.1 hg').1⟩
 have hG1:fP cx w1:=fun g cells hg=>by
  obtain⟨a1,a2,a3⟩:=hG g cells hg;refine⟨Nat.lt_of_lt_of_le a1 hbel.size,a2,fun j d hj=>?_⟩;obtain⟨u,hu,hr⟩:=a3 j d hj;exact⟨u,(World.cell?_of_block (hbel.block g a1)).trans hu,hr.eh (aA.1 a2 d (ar hj))⟩
 have hsort:Calls cx.P 169 #[v, .func (.func 135) #[] #[]] w1 _:=(vF ss hss hsl false).2 (fun b=>home v=some b) w1 v #[.func (.func 135) #[] #[]] (ss.map encStr) (fun b hb=>(hnew b hb).2) hG1
  (fun g cells hg hb=>by have:=(hG g cells hg).1;have:=(hnew g hb).1;omega) (fun g hg=>hg) (by rw[ao];exact ownsRow_base_a hrow (Nat.zero_le _)) (fun e=>by cases e) (by decide)
  (fun r hr=>by
   obtain⟨s,_,rfl⟩:=List.mem_map.1 hr;exact⟨rfl,fun d hd=>by rw[List.mem_singleton.1 hd];rfl⟩)
  (fun i r j d hi hj=>by
   rw[aV]at hi;cases hs:ss[i]? with
   | none=>rw[hs]at hi;cases hi
   | some s =>
    rw[hs]at hi;cases hi;rcases j with _ | j
    . cases hj;exact⟨encStr s,by rw[Nat.mul_one,Nat.add_zero,aV,hs];rfl, .str _ _ (by simp)⟩
    . simp[au]at hj) rfl
  (fun j d hj=>by
   rcases j with _ | j
   . cases hj;exact .fn _ _ _ _ _ rfl rfl (fun j d hj=>by simp at hj) (fun j d hj=>by simp at hj) (fun j m hj=>by simp at hj)
   . simp at hj)
 go_wp2_with (go_at_call 169;refine hsort.mono ?_;rintro e w2 ⟨v',xs',⟨rfl,rfl⟩,q1,q2,q3,q4,q5,q6,q7,q8,q9⟩)
 go_ret
 have hperm' :gE ss=gE (m.map (·.1)):=D6 hperm;rw[<- hperm'];refine⟨_,fun _=> .nilFunc,rfl,⟨q1.trans hbel.os,q2.trans hbel.tape,q3.trans hbel.output,Nat.le_trans hbel.size q4,fun k hk=>(q5 k (Nat.lt_of_lt_of_le hk hbel.size) fun e=>by have:=(hnew k e).1;omega).trans (hbel.block k hk)⟩,holds_nil, .d _ _ ?_⟩;refine Ly (by rw[ao]at q7;exact q7) (fun b hb ho=>?_) fun i r j d hi hj=>?_
 . have:=(hnew b hb).1;have:=hO b (yN ho);omega
 . obtain⟨u,hu,hd⟩:=q9 i r j d hi hj;refine⟨u,hu,?_⟩;rw[aV]at hi;cases hs:(gE ss)[i]? with
   | none=>rw[hs]at hi;cases hi
   | some s =>
    rw[hs]at hi;cases hi;rcases j with _ | j
    . cases hj;exact hd.eh rfl
    . simp[om]at hj
end Go.Proofs.YtjapjahfllomkaaGreatDoor
