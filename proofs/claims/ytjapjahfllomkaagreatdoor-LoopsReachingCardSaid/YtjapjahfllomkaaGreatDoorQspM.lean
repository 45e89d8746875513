/-
  slices.SortFunc at rows of one cell each: what it does to a row of the caller's. Generic over every program that bears it.
-/
import Derived.Test.YtjapjahfllomkaaGreatDoorAbM
import Derived.Test.YtjapjahfllomkaaGreatDoorQsoM
import Derived.Shelf.SlSortCmp.Whole1
set_option linter.all false
namespace NQ
open Go Go.RowKit Go.Sort Go.Proofs Go.Shelf
theorem lP{α:Type}[Inhabited α](enc:α->Value)(w:World)(B:Nat)(d:Array α)(m:Nat)(os:Array Obj){b:Nat}(hb:b<w.heap.size)(hne:b ≠ B):(sortWorld enc w B 0 m d os).heap[b]? =w.heap[b]? :=by
 show((w.heap.modify B _)++os)[b]? =_
 rw[Array.getElem?_append,if_pos (by simpa using hb),Array.getElem?_modify,if_neg (Ne.symm hne)]
theorem qS{α:Type}[Inhabited α](enc:α->Value)(w:World)(B:Nat)(d:Array α)(m:Nat)(os:Array Obj){cur:Array Value}{e:TypeId}{fr:Nat×Nat}(h:w.heap[B]? =some (.cells cur e fr)) :
 (sortWorld enc w B 0 m d os).heap[B]? =some (.cells (putCells enc 0 d cur) e fr):=by
 have hb:B<w.heap.size:=(bA.1 h).1;show((w.heap.modify B _)++os)[B]? =_
 rw[Array.getElem?_append,if_pos (by simpa using hb),Array.getElem?_modify,if_pos rfl,h];rfl
theorem pU{α:Type}[Inhabited α](enc:α->Value)(w:World)(B:Nat)(d:Array α)(m:Nat)(os:Array Obj):w.heap.size<=(sortWorld enc w B 0 m d os).heap.size:=by
 show w.heap.size<=((w.heap.modify B _)++os).size
 rw[Array.size_append,Array.size_modify];omega
theorem qQ{α:Type}[Inhabited α](enc:α->Value)(F:Array α)(cur:Array Value)(h:F.size<=cur.size):(putCells enc 0 F cur).size=cur.size/\(putCells enc 0 F cur).toList.take F.size=F.toList.map enc:=by
 have hs:(putCells enc 0 F cur).size=cur.size:=by simp[putCells]
 refine⟨hs,?_⟩;apply List.ext_getElem?;intro j;rw[List.getElem?_take,aV];split
 . rename_i hj;have hjc:j<cur.size:=by omega
   rw[bl,bl];simp[putCells,hj,hjc]
 . rename_i hj;rw[bl,Array.getElem?_eq_none (by omega)];rfl
set_option maxHeartbeats 2000000 in
theorem Jl{cx:Cx}{ρ:Ren}(L:SlLaysF.n6 cx.P ρ)(hcal:gM cx.P (ρ.f 6)){e:TypeId}{g:FuncId}{caps:List D}{c:List D->List D->Int}{rows:List (List D)}{fl:Bool}
 (hcmp:∀x y,[x]∈rows->[y]∈rows->Fn cx g ([x,y]++caps) (.d (.int .i64 (c [x] [y]))) []) (eg:∀args w,(callFunc g args).run cx.P w= .ok (.enter g args) w) (hO:lz c rows) (hlen:rows.length<4611686018427387904):FnR cx (ρ.f 6) false e 1 rows fl [.fn g [] caps] (mC c rows):=by
 refine EF ⟨hcal,fun O w v vs xs hOlt hG hGO hOv hown hfl hk hrows hrep hsz hargs=>?_⟩;have hvs:vs= #[vs.getD 0 Go.undef]:=by
  apply Array.ext
  . simpa using hsz
  . intro i h1 h2;simp at h2;subst h2;simp[h1]
 have hfv:=hargs 0 _ rfl;rw[hvs];generalize vs.getD 0 Go.undef=fv at hfv;cases hfv with | fn _ _ _ xs0 cb hx0 hcl h1 h2 _ =>
 have hx0:xs0= #[]:=Array.eq_empty_of_size_eq_zero hx0;subst hx0;by_cases hn:0<rows.length
 . rcases hown with ⟨hxl,⟨_,hz⟩ | ⟨B,cap,cur,rfl,_,hB,hnc,hcm,hcs,htk⟩⟩
   . omega
   rw[Nat.mul_one]at hxl htk hcs;have hBlt:B<w.heap.size:=(bA.1 hB).1;have hOB:O B:=hOv B rfl
   letI:Inhabited (Fin rows.length):=⟨⟨0,hn⟩⟩
   let enc:Fin rows.length->Value:=fun i=>xs.getD i default
   let d:Array (Fin rows.length):=Array.ofFn id
   have hdsz:d.size=rows.length:=by simp[d]
   have hxg:∀i:Fin rows.length,∃x,rows[i]=[x]/\x.one=true/\xs[i.1]? =some (enc i)/\Rep w O x (enc i):=fun i=>by
    have hr:rows[i.1]? =some rows[i]:=ah i.2;obtain⟨h1,h2⟩:=hrows _ (List.getElem_mem i.2);obtain⟨x,hx⟩:∃x,rows[i]=[x]:=by
     have h1' :rows[i].length=1:=h1
     match hh:rows[i]with
     | []=>rw[hh]at h1';cases h1'
     | [x]=>exact⟨x,rfl⟩
     | _::_::_=>rw[hh]at h1';simp at h1'
    obtain⟨u,hu,hrp⟩:=hrep i.1 _ 0 x hr (by rw[hx];rfl);rw[Nat.mul_one,Nat.add_zero]at hu;have e:enc i=u:=by show xs.getD i default=u;rw[List.getD_eq_getElem?_getD,hu];rfl
    exact⟨x,hx,h2 x (by rw[show rows[i.1]=[x]from hx];exact List.mem_singleton.2 rfl),by rw[e];exact hu,by rw[e];exact hrp⟩
   have hone:OneCell enc:=fun i=>by obtain⟨x,_,h1,_,h3⟩:=hxg i;exact h3.kR h1
   have hH:Go.Sort.Holds enc w B 0 d:=by
    intro j hj;have hjn:j<rows.length:=by rw[<- hdsz];exact hj
    have hdj:d[j]! =⟨j,hjn⟩:=by rw[getElem!_pos d j hj];simp[d]
    obtain⟨_,_,_,hx,_⟩:=hxg ⟨j,hjn⟩;have hc:cur[j]? =some (enc ⟨j,hjn⟩):=by
     have:=congrArg (fun l:List Value=>l[j]?) htk;simp only[List.getElem?_take,bl]at this;rw[if_pos hjn]at this;rw[this];exact hx
    constructor
    . simp only[World.cell?,hB,Nat.zero_add];rw[hdj];exact hc
    . simp[World.frozen?,hB]
   have keeps:∀m dk os,aZ w (sortWorld enc w B 0 m dk os) O O:=fun m dk os =>
    ⟨pU enc w B dk m os,fun b hb hlt=>lP enc w B dk m os hlt fun h=>hb (h ▸ hOB),fun b hb _=>hb⟩
   have hcl:CmpLays1 cx.P g cb enc (fun i j=>cfN c rows i j) B 0 d.size w:=by
    intro m os dk hdk i j;have kp:=keeps m dk os;have hW:fP cx (sortWorld enc w B 0 m dk os):=fun gg cells hgl=>by
     obtain⟨a1,a2,a3⟩:=hG gg cells hgl;refine⟨Nat.lt_of_lt_of_le a1 kp.size,a2,fun jj dd hjj=>?_⟩;obtain⟨u,hu,hr⟩:=a3 jj dd hjj;exact⟨u,by rw[kp.cell (hGO gg cells hgl) a1];exact hu,hr.eh (aA.1 a2 dd (ar hjj))⟩
    obtain⟨x,hx,_,_,hxr⟩:=hxg i;obtain⟨y,hy,_,_,hyr⟩:=hxg j;have hmx:[x]∈rows:=by rw[<- hx];exact List.getElem_mem i.2
    have hmy:[y]∈rows:=by rw[<- hy];exact List.getElem_mem j.2
    have hcall:=(hcmp x y hmx hmy).2 O (sortWorld enc w B 0 m dk os) (#[enc i,enc j]++cb)
     (fun b hb=>Nat.lt_of_lt_of_le (hOlt b hb) kp.size) hW hGO (by simp[hcl];omega) (fun jj z hj=>by
      rcases jj with _ | _ | jj
      . cases hj;have e:(#[enc i,enc j]++cb).getD 0 Go.undef=enc i:=by
         rw[bw,Array.getElem?_append_left (by simp)];rfl
        rw[e];exact hxr.mono kp
      . cases hj;have e:(#[enc i,enc j]++cb).getD 1 Go.undef=enc j:=by
         rw[bw,Array.getElem?_append_left (by simp)];rfl
        show Rep _ _ _ ((#[enc i,enc j]++cb).getD 1 Go.undef)
        rw[e];exact hyr.mono kp
      . have hj' :caps[jj]? =some z:=hj;have:=h2 jj z hj';have e:(#[enc i,enc j]++cb).getD (jj+2) Go.undef=cb.getD jj Go.undef:=by
         rw[bw,bw,Array.getElem?_append_right (by simp)];rfl
        rw[e];exact this.mono kp)
    refine(Kb hcall).mono ?_;rintro en w' ⟨⟨u,τ,rfl,hb,_,hu⟩,hd⟩;refine⟨?_,uW hb (hd u rfl)⟩;show Ending.returned u=Ending.returned (.int .i64 (cfN c rows i j))
    rw[qC,show rows[i]=[x]from hx,show rows[j]=[y]from hy];cases hu with | d _ _ hu=>cases hu;rfl
   have hcon:=Any.slices_SortFunc_eq L enc hone (fun i j=>cfN c rows i j) hO.swo g cb B 0 cap d w eg hcl hH hBlt (by rw[hdsz];exact hlen);rw[hdsz]at hcon;have hsp:=sh hn hO;have hse:nx rows.length (cfN c rows) hn=pdq (ltOf fun i j:Fin rows.length=>cfN c rows i j) d 0 rows.length (Lib.bitLen rows.length) true true:=rfl;have hsl:=wL c rows hn;rw[<- hse]at hcon;generalize nx rows.length (cfN c rows) hn=d' at hcon hsp hsl;refine hcon.mono ?_;rintro en w' ⟨rfl,m,os,rfl⟩;have hd's:=hsp.1;obtain⟨t1,t2⟩:=qQ enc d' cur (by rw[hd's,hcs];exact hnc);rw[hd's]at t2
   have hlr' :(mC c rows).length=rows.length:=(si hO).length_eq;refine⟨_,d'.toList.map enc,⟨rfl,rfl⟩,rfl,rfl,rfl,(keeps m d' os).size,fun b hb hne=>lP enc w B d' m os hb fun h=>hne (by rw[h];rfl),fun b hb=> .inl hb,⟨by simp[hd's,hlr'], .inr ⟨B,cap,_,by rw[hlr'],Nat.zero_le _,qS enc w B d' m os hB,by rw[hlr'];exact hnc,hcm,by rw[t1,hcs,Nat.mul_one],by rw[hlr',Nat.mul_one];exact t2⟩⟩,fun r hr=>hrows r ((si hO).subset hr),fun i r j x hi hj=>?_⟩;rw[hsl,aV]at hi;cases hdi:d'.toList[i]? with
   | none=>rw[hdi]at hi;cases hi
   | some p =>
    rw[hdi]at hi;cases hi;obtain⟨z,hz,_,_,hzr⟩:=hxg p;have hj' :[z][j]? =some x:=by rw[<- show rows[p]=[z]from hz];exact hj
    rcases j with _ | j
    . cases hj';exact⟨enc p,by rw[Nat.mul_one,Nat.add_zero,aV,hdi];rfl,hzr⟩
    . simp at hj'
 . obtain rfl:rows=[]:=List.eq_nil_of_length_eq_zero (by omega);obtain⟨p,cap,hv⟩:∃p cap,v= .slice p 0 cap:=by
    rcases hown with ⟨_,⟨e,_⟩ | ⟨B,cap,cur,e,_⟩⟩
    . exact⟨none,0,e⟩
    . exact⟨_,cap,e⟩
   subst hv;refine(AnyF.slices_SortFunc_none {L with} p cap (.func (.func g) #[] cb) w).mono ?_;rintro en w' ⟨rfl,rfl⟩;exact⟨_,xs,⟨rfl,rfl⟩,rfl,rfl,rfl,Nat.le_refl _,fun _ _ _=>rfl,fun _ h=> .inl h,hown,fun r hr=>by simp[z8]at hr,fun i r j x hi hj=>by simp[z8]at hi⟩
end NQ
