/-
  Law 17 on plain data: LoopsOrder.
-/
import Derived.Test.YtcecidfnchcagaaGreatDoorMIc
set_option linter.all false
set_option maxRecDepth 100000
namespace NP
open NQ Go
theorem turn_alias{f:Nat->Int}(hf:∀i,0<=f i/\f i<32){w:aQ}(h:aX w=true)(s:Bs):pJ (xt f w) s=pJ w s:=by
 unfold pJ;rw[N8 hf h,h,NS h]
theorem turn_forest{f:Nat->Int}(hf:∀i,0<=f i/\f i<32){w:aQ}(h:aX w=true)(a:Bs):cH (xt f w) a=cH w a:=by
 unfold cH;rw[N8 hf h,h,rB (IX h)]
theorem turn_needs{f:Nat->Int}(hf:∀i,0<=f i/\f i<32){w:aQ}(h:aX w=true)(a:Bs):jG (xt f w) a=jG w a:=by
 unfold jG;rw[turn_forest hf h,Di (IX h)]
theorem turn_least{f:Nat->Int}(hf:∀i,0<=f i/\f i<32){w:aQ}(h:aX w=true)(a:Bs):jE (xt f w) a=jE w a:=by
 unfold jE;rw[turn_forest hf h,NN (IX h)]
theorem turn_zones{f:Nat->Int}(hf:∀i,0<=f i/\f i<32){w:aQ}(h:aX w=true):oz (xt f w)=oz w:=by
 unfold oz;rw[N8 hf h,h,NO (IX h)]
theorem turn_few{f:Nat->Int}{w:aQ}(hF:jr w):jr (xt f w) :=
 ⟨by show(jH f 0 w.hosts).length<=_;rw[lW];exact hF.hosts,by show w.zones.reverse.length<=_;rw[List.length_reverse];exact hF.zones,hF.hints,fun p hp=>hF.few p (List.mem_reverse.1 hp)⟩
theorem u8_17{n:Int}(h:(Lit.int .u8 n).wf=true):0<=n/\n<=255:=by
 simp[Lit.wf,IntKind.min,IntKind.max,IntKind.signed,IntKind.bits]at h;omega
theorem revq_get{α:Type}{l:List α}{k:Nat}(hk:k<l.length):l.reverse[k]? =l[l.length-1-k]? :=by
 rw[List.getElem?_reverse hk]
def ownK(o:Nat)(k:Nat):Int:=(((o+k) % 32:Nat):Int)
theorem ownK_ok(o:Nat):∀i,0<=ownK o i/\ownK o i<32:=fun i=>by unfold ownK;omega
theorem aliasW_len{w:aQ}{s:Bs}(hg:bU w.zones)(hz:w.zones.length<=20):(pJ w s).1.length<=100000:=by
 unfold pJ;split
 . exact Nat.zero_le _
 . rename_i h;simp only[Bool.not_eq_false,Bool.and_eq_true]at h;show(mz w.zones s).1.length<=_
   cases h2:(mz w.zones s).2 with
   | false=>rw[show(mz w.zones s).1=[]from GF _ _ _ h2];exact Nat.zero_le _
   | true=>exact Ob hg (Ol hg h.2 h2) hz
theorem needsW_len{w:aQ}{a:Bs}(hg:bU w.zones)(hz:w.zones.length<=20):(jG w a).1.length<=100000:=by
 unfold jG;split
 . rename_i h;have:=yX hg (lh h).2.1;show(aK w.zones a).length<=_
   omega
 . exact Nat.zero_le _
theorem leastW_len{w:aQ}{a:Bs}(hg:bU w.zones)(hz:w.zones.length<=20):(jE w a).1.length<=100000:=by
 unfold jE;split
 . rename_i h;have:=H7 hg (lh h).2.1;show(bN w.zones a).length<=_
   omega
 . exact Nat.zero_le _
theorem zonesW_len{w:aQ}(hz:w.zones.length<=20):(oz w).1.length<=100000:=by
 unfold oz;split
 . have h1:(cN w.zones).length<=(ar w.zones).length:=List.length_filter_le _ _;have:=gu w.zones;show(cN w.zones).length<=_
   omega
 . exact Nat.zero_le _
end NP
namespace Go.Proofs.YtcecidfnchcagaaGreatDoor
open NQ Go NP Go.RowKit
theorem sameSelf17_fn(l:List Bs)(hl:l.length<=100000):NQ.Fn cx 39 [.slice 1 (l.map ao), .slice 1 (l.map ao)] (.d (.bool true)) []:=by
 have:=oT l l hl hl;rw[Gl.2 rfl]at this;exact this
def fzOr:Nat->List Nat
 | 6=>[55555]
 | 9=>[66666]
 | 11=>[55555]
 | 16=>[55555]
 | _=>[]
set_option maxHeartbeats 4000000 in
theorem order_end(w t:aQ)(s a:Bs)(hF:jr w)(hFt:jr t)(hg:bU w.zones)(hz:w.zones.length<=12)(hzt:t.zones.length<=12)(e1:pJ t s=pJ w s)(e2:jG t a=jG w a)(e3:oz t=oz w)(e4:jE t a=jE w a)(st:St)
 (hs:ah cx st ⟨[(1, .d (.str s)),(2, .d (.str a)),(4, .ptr 4 0),(9, .d (.bool true)),(10, .ptr 10 0)],[(4, .box ((bp w).map .d)),(10, .box ((bp t).map .d))]⟩) :
 vc cx Tryz.f8.ntmps fzOr (tX 7 ((Tryz.f8.body).getD .skip)) (fnQ cx Tryz.f8.results.toList (.d (.bool true)) []) st:=by
 have a1:=yv w s hF (by omega);have a2:=yv t s hFt (by omega);rw[e1]at a2;have s1:=sameSelf17_fn (pJ w s).1 (aliasW_len hg (by omega));have b1:=oN w a hF;have b2:=oN t a hFt;rw[e2]at b2;have s2:=sameSelf17_fn (jG w a).1 (needsW_len hg (by omega));have c1:=tv w hF;have c2:=tv t hFt;rw[e3]at c2;have s3:=sameSelf17_fn (oz w).1 (zonesW_len (by omega));have d1:=sJ w a hF;have d2:=sJ t a hFt;rw[e4]at d2;have s4:=sameSelf17_fn (jE w a).1 (leastW_len hg (by omega));generalize pJ w s=A at *
 generalize jG w a=B at *
 generalize oz w=C at *
 generalize jE w a=D at *
 obtain⟨A1,A2,A3⟩:=A;obtain⟨B1,B2⟩:=B;obtain⟨C1,C2⟩:=C;obtain⟨D1,D2,D3⟩:=D;dsimp only at a1 a2 b1 b2 c1 c2 d1 d2 s1 s2 s3 s4
 conv=>whnf
 refine⟨_,hs,?_⟩
 conv=>whnf
 (refine⟨_,_,a1,?_⟩;conv=>whnf)
 (refine⟨_,_,a2,?_⟩;conv=>whnf)
 (refine⟨_,_,s1,?_⟩;conv=>whnf)
 rw[show(A2==A2)=true by simp]
 conv=>whnf
 rw[show(A3==A3)=true by simp]
 conv=>whnf
 (refine⟨_,_,b1,?_⟩;conv=>whnf)
 (refine⟨_,_,b2,?_⟩;conv=>whnf)
 (refine⟨_,_,s2,?_⟩;conv=>whnf)
 rw[show(B2==B2)=true by simp]
 conv=>whnf
 (refine⟨_,_,c1,?_⟩;conv=>whnf)
 (refine⟨_,_,c2,?_⟩;conv=>whnf)
 (refine⟨_,_,s3,?_⟩;conv=>whnf)
 rw[show(C2==C2)=true by simp]
 conv=>whnf
 (refine⟨_,_,d1,?_⟩;conv=>whnf)
 (refine⟨_,_,d2,?_⟩;conv=>whnf)
 (refine⟨_,_,s4,?_⟩;conv=>whnf)
 rw[show(D2==D2)=true by simp]
 conv=>whnf
 rw[show(D3==D3)=true by simp]
 conv=>whnf
 exact af rfl rfl
set_option maxHeartbeats 4000000 in
theorem loopsOrder_fn(w:aQ)(s a:Bs)(owner:Int)(ho:(Lit.int .u8 owner).wf=true):NQ.Fn cx 8 [.agg (bp w), .str s, .str a, .int .u8 owner] (.d (.bool true)) []:=by
 obtain⟨o,rfl⟩:∃n:Nat,owner=n:=⟨owner.toNat,by have:=(u8_17 ho).1;omega⟩
 have ho2:o<=255:=by have:=(u8_17 ho).2;omega
 have fU:=u3 w;cases hu:(ni w&&aX w)with
 | false =>
  rw[hu]at fU;refine av aH mixed Tryz.func8 (by kernel_rfl) rfl (Nat.le_of_ble_eq_true rfl) ?_;conv=>whnf
  (refine⟨_,_,mF,?_⟩;conv=>whnf)
  (refine⟨_,_,fU,?_⟩;conv=>whnf)
  exact af rfl rfl
 | true =>
 rw[hu]at fU;obtain⟨hF,hv,hzl,hhl⟩:=Ci hu;have hg:=qI hF hv;have hK:=ownK_ok o;have hend:=order_end w (xt (ownK o) w) s a hF (turn_few hF) hg hzl (by show w.zones.reverse.length<=12;rw[List.length_reverse];exact hzl) (turn_alias hK hv s) (turn_needs hK hv a) (turn_zones hK hv) (turn_least hK hv a);refine cw fzOr aH mixed Tryz.func8 (by kernel_rfl) rfl (Nat.le_of_ble_eq_true rfl) ?_
 conv=>whnf
 (refine⟨_,_,mF,?_⟩;conv=>whnf)
 (refine⟨_,_,fU,?_⟩;conv=>whnf)
 refine⟨by(show 0+(w.hosts.map jW).length<=_);rw[List.length_map];omega,by(show(0+(w.hosts.map jW).length)*32<=_);rw[List.length_map];omega,?_⟩
 conv=>whnf
 refine⟨⟨[(1, .d (.str s)),(2, .d (.str a)),(3, .d (.int .u8 o)),(4, .ptr 4 0),(9, .d (.bool true)),(10, .ptr 10 0)],[(4, .box ((bp w).map .d)),(10, .box (.own 25:: .nil 3::((bp w).drop 2).map .d)),(25, .row 74 3 (w.hosts.map jW))]⟩,ah.keep ⟨⟨rfl,rfl⟩,⟨rfl,rfl⟩,⟨rfl,rfl⟩,⟨rfl,rfl⟩,⟨rfl,rfl⟩,⟨rfl,rfl⟩,trivial⟩ ⟨⟨rfl,rfl⟩,⟨rfl,rfl⟩,⟨rfl,rfl⟩,trivial⟩,?_⟩
 conv=>whnf
 refine⟨Nat,fun k=>⟨[(1, .d (.str s)),(2, .d (.str a)),(3, .d (.int .u8 o)),(4, .ptr 4 0),(9, .d (.bool true)),(10, .ptr 10 0),(33, .d (.int .i64 ((w.zones.map bx).length:Int))),(34, .d (.int .i64 k))],[(4, .box ((bp w).map .d)),(10, .box (.own 25:: .own 200::((bp w).drop 2).map .d)),(25, .row 74 3 (w.hosts.map jW)),(200, .row 45 3 ((w.zones.reverse.take k).map bx))]⟩,
  fun k=>k<=w.zones.length,fun k=>w.zones.length-k,
  ⟨0,Nat.zero_le _,(ah.qV 10 1 200 3 (.own 25:: .nil 3::((bp w).drop 2).map .d) 45 3 rfl rfl rfl (by decide)).trans (ah.keep ⟨⟨rfl,rfl⟩,⟨rfl,rfl⟩,⟨rfl,rfl⟩,⟨rfl,rfl⟩,⟨rfl,rfl⟩,⟨rfl,rfl⟩,⟨rfl,rfl⟩,⟨rfl,rfl⟩,trivial⟩ ⟨⟨rfl,rfl⟩,⟨rfl,rfl⟩,⟨rfl,rfl⟩,⟨rfl,rfl⟩,trivial⟩)⟩,fun k hk=>?_⟩
 conv=>whnf
 refine ae (fun g3=>?_) (fun g3=>?_) <;> (rw[g3];conv=>whnf)
 . have hlt:k<w.zones.length:=by simpa using g3
   (refine⟨(by kernel_rfl:jS _=true),?_⟩;conv=>whnf)
   have hj:w.zones.length-1-k<w.zones.length:=by omega
   obtain⟨p,hp⟩:∃p,w.zones[w.zones.length-1-k]? =some p:=⟨_,List.getElem?_eq_getElem hj⟩
   have hr:w.zones.reverse[k]? =some p:=by rw[revq_get hlt];exact hp
   have ew1:IntKind.i64.wrap (IntKind.i64.wrap (((w.zones.map bx).length:Int)-1)-(k:Int))=((w.zones.length-1-k:Nat):Int):=by
    have e1:IntKind.i64.wrap ((w.zones.length:Int)-1)=(w.zones.length:Int)-1:=wrap_i64 (by omega) (by omega);rw[List.length_map,e1,wrap_i64 (by omega) (by omega)];omega
   rw[ew1];refine⟨Int.natCast_nonneg _,bx p,az hp,?_⟩
   conv=>whnf
   have htl:(w.zones.reverse.take k).length=k:=by rw[List.length_take,List.length_reverse];omega
   repeat' (first
    | (refine⟨by(show((w.zones.reverse.take k).map bx).length+1<=_);rw[List.length_map];omega,by(show(((w.zones.reverse.take k).map bx).length+1)*48<=_);rw[List.length_map];omega,?_⟩;conv=>whnf)
    | (refine⟨by kernel_rfl,?_⟩;conv=>whnf)
    | (refine⟨k+1,hlt,by(show w.zones.length-(k+1)<w.zones.length-k;omega),ah.keep ⟨⟨rfl,rfl⟩,⟨rfl,rfl⟩,⟨rfl,rfl⟩,⟨rfl,rfl⟩,⟨rfl,rfl⟩,⟨rfl,rfl⟩,⟨rfl,rfl⟩,⟨aj (by omega),rfl⟩,trivial⟩ ⟨⟨rfl,rfl⟩,⟨rfl,rfl⟩,⟨rfl,rfl⟩,⟨?_,rfl⟩,trivial⟩⟩;rw[aS hr,List.map_append];rfl)
    | (refine⟨?_,?_⟩ <;> (conv=>whnf))
    | fail)
 obtain rfl:k=w.zones.length:=by simp at g3;omega
 have hfull:w.zones.reverse.take w.zones.length=w.zones.reverse:=List.take_of_length_le (by rw[List.length_reverse];exact Nat.le_refl _);dsimp only;rw[hfull];refine⟨⟨[(1, .d (.str s)),(2, .d (.str a)),(3, .d (.int .u8 o)),(4, .ptr 4 0),(9, .d (.bool true)),(10, .ptr 10 0)],[(4, .box ((bp w).map .d)),(10, .box (.own 25:: .own 200::((bp w).drop 2).map .d)),(25, .row 74 3 ((nr (ownK o) w.hosts 0).map jW)),(200, .row 45 3 (w.zones.reverse.map bx))]⟩,ah.keep ⟨⟨rfl,rfl⟩,⟨rfl,rfl⟩,⟨rfl,rfl⟩,⟨rfl,rfl⟩,⟨rfl,rfl⟩,⟨rfl,rfl⟩,trivial⟩ ⟨⟨rfl,rfl⟩,⟨rfl,rfl⟩,⟨rfl,rfl⟩,⟨rfl,rfl⟩,trivial⟩,?_⟩
 conv=>whnf
 refine⟨Nat,fun k=>⟨[(1, .d (.str s)),(2, .d (.str a)),(3, .d (.int .u8 o)),(4, .ptr 4 0),(9, .d (.bool true)),(10, .ptr 10 0),(55, .d (.int .i64 w.hosts.length)),(56, .d (.int .i64 k))],[(4, .box ((bp w).map .d)),(10, .box (.own 25:: .own 200::((bp w).drop 2).map .d)),(25, .row 74 3 ((nr (ownK o) w.hosts k).map jW)),(200, .row 45 3 (w.zones.reverse.map bx))]⟩,
  fun k=>k<=w.hosts.length,fun k=>w.hosts.length-k,
  ⟨0,Nat.zero_le _,ah.keep ⟨⟨rfl,rfl⟩,⟨rfl,rfl⟩,⟨rfl,rfl⟩,⟨rfl,rfl⟩,⟨rfl,rfl⟩,⟨rfl,rfl⟩,⟨?_,rfl⟩,⟨rfl,rfl⟩,trivial⟩ ⟨⟨rfl,rfl⟩,⟨rfl,rfl⟩,⟨rfl,rfl⟩,⟨rfl,rfl⟩,trivial⟩⟩,fun k hk=>?_⟩
 . show AV.d (.int .i64 (((nr (ownK o) w.hosts 0).map jW).length:Int))=AV.d (.int .i64 (w.hosts.length:Int))
   rw[List.length_map,Og]
 conv=>whnf
 refine ae (fun g2=>?_) (fun g2=>?_) <;> (rw[g2];conv=>whnf)
 . have hlt:k<w.hosts.length:=by simpa using g2
   obtain⟨h,hh⟩:∃h,w.hosts[k]? =some h:=⟨_,List.getElem?_eq_getElem hlt⟩
   have hp:=Oe (f:=ownK o) hh;refine⟨Int.natCast_nonneg k,by(show k<((nr (ownK o) w.hosts k).map jW).length);rw[List.length_map,Og];exact hlt,?_⟩
   conv=>whnf
   refine⟨jW h,az hp,?_⟩
   conv=>whnf
   refine⟨k+1,hlt,by(show w.hosts.length-(k+1)<w.hosts.length-k;omega),ah.keep ⟨⟨rfl,rfl⟩,⟨rfl,rfl⟩,⟨rfl,rfl⟩,⟨rfl,rfl⟩,⟨rfl,rfl⟩,⟨rfl,rfl⟩,⟨rfl,rfl⟩,⟨aj (by omega),rfl⟩,trivial⟩ ⟨⟨rfl,rfl⟩,⟨rfl,rfl⟩,⟨?_,rfl⟩,⟨rfl,rfl⟩,trivial⟩⟩;have ew:IntKind.i64.wrap (o:Int)=(o:Int):=wrap_i64 (by omega) (by omega);have ew2:(IntKind.i64.wrap (IntKind.i64.wrap (o:Int)+(k:Int))).tmod 32=ownK o k:=by
    rw[ew,wrap_i64 (by omega) (by omega),Int.tmod_eq_emod_of_nonneg (by omega)];unfold ownK;omega
   show some (Blk.row _ _ (((nr (ownK o) w.hosts k).map jW).set k [.str h.name, .int .i64 h.addr, .int .i64 ((IntKind.i64.wrap (IntKind.i64.wrap (o:Int)+(k:Int))).tmod 32)]) _)=some (Blk.row _ _ ((nr (ownK o) w.hosts (k+1)).map jW) _)
   rw[ew2, <- Oh hh,List.map_set];rfl
 . obtain rfl:k=w.hosts.length:=by simp at g2;omega
   dsimp only;rw[Od];exact hend _ ((ah.Oq [25,200]).trans (ah.keep ⟨⟨rfl,rfl⟩,⟨rfl,rfl⟩,⟨rfl,rfl⟩,⟨rfl,rfl⟩,⟨rfl,rfl⟩,trivial⟩ ⟨⟨rfl,rfl⟩,⟨rfl,rfl⟩,trivial⟩))
end Go.Proofs.YtcecidfnchcagaaGreatDoor
