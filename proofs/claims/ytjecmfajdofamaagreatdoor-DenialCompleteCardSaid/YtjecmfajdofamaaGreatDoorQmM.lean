/-
  That what an operation must be shown is enough: rows, maps, calls of functions; all together.
-/
import Derived.Test.YtjecmfajdofamaaGreatDoorMQe
import Derived.MapKept
set_option linter.unusedSimpArgs false
set_option linter.unusedVariables false
namespace NQ
open Go Go.RowKit

section
variable {cx : Cx} {st : St} {k : KK}

theorem ok_makeMap (hT : TyOk cx) {o : Oper} {t : TypeId} {r : Option Operand} (ho : o.op = .makeMap t r) (h : opK cx o.dst o.type st (.makeMap t r) k) : ∃ v bs, OpOk cx o st v bs ∧ k v bs := by
  have run : ∀ {b : Bool}, mapKind cx t = some b → hintOk (r.map (st.ev cx)) = true → ∀ (E : Env) st' σ a w, st.le st' → SimAt cx E st' σ a w → (execOp a.eval o).run cx.P w = .ok (.value (.map (some w.heap.size))) (w.alloc (.map #[] 0)) := by
    intro b hm hh E st' σ a w hle hs
    cases r with
    | none => simp [execOp, ho, Instr.makeMap, newObj, Sem.run]
    | some x =>
      have hr := hs.ev hle x
      simp only [Option.map_some, hintOk] at hh
      split at hh
      · rename_i e; cases e
      · rename_i k n hx
        rw [Option.some.inj hx] at hr
        unfold mapKind at hm
        split at hm
        · rename_i kt et zero ht
          obtain ⟨_, _, _, _, t2, t3, _⟩ := hT _ _ ht
          rw [kindOf_map t3] at t2
          simp [execOp, ho, Instr.makeMap, hr.int, run_underlying t2, asInt, asIntOf, newObj, Sem.run]
        · cases hm
      · cases hh
  simp only [opK] at h
  split at h
  · rename_i d hd hh hm
    refine ⟨_, _, OpOk.new (by rw [ho]; rfl) (by assumption) fun E st' σ a w hle hs => ?_, h⟩
    refine ⟨w.alloc (.map #[] 0), .map (some w.heap.size), .map (some w.heap.size), run hm hh E st' σ a w hle hs, below_new _ _, fun g hg => by cases hg; exact Nat.le_refl _, fun σ' e1 hF hk hss hl => ⟨?_, ?_⟩⟩
    · exact ⟨w.heap.size, #[], 0, e1, hF _ (Nat.le_refl _), heap_alloc_new w _, rfl, fun j kk v hj => by simp at hj⟩
    · rw [← e1]; exact .omap _ hl
  · rename_i d hd hh hm
    refine ⟨_, _, OpOk.new (by rw [ho]; rfl) (by assumption) fun E st' σ a w hle hs => ?_, h⟩
    refine ⟨w.alloc (.map #[] 0), .map (some w.heap.size), .map (some w.heap.size), run hm hh E st' σ a w hle hs, below_new _ _, fun g hg => by cases hg; exact Nat.le_refl _, fun σ' e1 hF hk hss hl => ⟨?_, ?_⟩⟩
    · exact ⟨w.heap.size, #[], 0, e1, hF _ (Nat.le_refl _), heap_alloc_new w _, rfl, fun j kk v hj => by simp at hj⟩
    · rw [← e1]; exact .omap _ hl
  · exact h.elim

theorem row_ok {w w' : World} {F O L L' : Nat → Prop} {σ σ' : Nat → Value} {d n : Nat} {e : TypeId} {size : Nat} {rows : List (List D)} {τ : Value} {xs : List Value} {fl : Bool} (hs : ∀ s, L s → L' s ∧ σ' s = σ s) (hfl : fl = true → ∃ a, τ = .slice a n n)
    (hk : Keeps w w' (Own O L σ) (Own O L' σ')) (hσ : σ' d = τ) (hF : ∀ b, home τ = some b → F b) (hn : rows.length = n) (ho : w'.ownsRow 0 e size τ n xs) (hz : 0 < size) (hr : ∀ r ∈ rows, r.length = size ∧ ∀ d ∈ r, d.one = true)
    (h : ∀ i r j d, rows[i]? = some r → r[j]? = some d → ∃ u, xs[i * size + j]? = some u ∧ Rep w (Own O L σ) d u) : BlkOk w' F O L' σ' d (.row e size rows fl) := by
  subst hn hσ
  refine ⟨xs, ho, hF, ⟨hz, hfl⟩, hr, fun i r j d hi hj => ?_⟩
  obtain ⟨u, hu, hd⟩ := h i r j d hi hj
  exact ⟨u, hu, hd.mono hk⟩

theorem madeCells_get {z : Array Value} {n size j : Nat} (hz : z.size = size) (hs : 0 < size) (i : Nat) (hi : i < n) (hj : j < size) : (madeCells z (n * size)).toList[i * size + j]? = some (z.getD j Go.undef) := by
  have hlt : i * size + j < n * size := by
    have : (i + 1) * size ≤ n * size := Nat.mul_le_mul_right _ hi
    rw [Nat.add_mul] at this; omega
  have hm : (i * size + j) % z.size = j := by rw [hz, Nat.add_comm, Nat.add_mul_mod_self_right, Nat.mod_eq_of_lt hj]
  have hj' : j < z.size := by omega
  simp [madeCells, hlt]
  rw [hm]; simp [hj']

theorem ok_makeSlice (hT : TyOk cx) {o : Oper} {t : TypeId} {l c : Operand} (ho : o.op = .makeSlice t l c) (h : makeSliceK cx o.dst t (st.ev cx l) (st.ev cx c) (sameOp l c) k) : ∃ v bs, OpOk cx o st v bs ∧ k v bs := by
  unfold makeSliceK at h
  split at h
  · rename_i d e ei kl n kc m hd hse hl hc
    split at h
    · rename_i z hz
      obtain ⟨h0, h1, h2, h3, h4, h⟩ := h
      split at h
      · rename_i hsz
        have hsz : 1 ≤ ei.size := Nat.le_of_ble_eq_true hsz
        obtain ⟨ti, ht, hkd, hei⟩ := sliceElem_ok hse
        refine ⟨_, _, OpOk.new (by rw [ho]; rfl) (by assumption) fun E st' σ a w hle hs => ?_, h⟩
        obtain ⟨_, _, _, _, t2, t3, _⟩ := hT _ _ ht
        rw [hkd] at t3; obtain rfl := kindOf_slice t3
        obtain ⟨info, desc, zv, i1, i2, i3, i4, i5, i6, i7, i8, i9, i10⟩ := hT _ _ hei
        have hlv := hs.ev hle l; rw [hl] at hlv
        have hcv := hs.ev hle c; rw [hc] at hcv
        obtain ⟨l1, l2⟩ := viewL_get hz
        have hzr : ∀ (j : Nat) x, z[j]? = some x → x.one = true ∧ Rep w (Own E.O (live st'.heap) σ) x (zv.cells.getD j Go.undef) := fun j x hj => by
          obtain ⟨cc, hcc, hf⟩ := l2 j x hj
          obtain ⟨e1, e2⟩ := zeroCell_rep (w := w) (O := E.O) (L := live st'.heap) (σ := σ) (i9 j cc hcc)
          refine ⟨?_, freeC_rep hf e2⟩
          rcases e1 with e1 | rfl
          · cases cc <;> simp only [freeC] at hf <;> first | (cases hf; exact e1) | (cases hf; rfl) | cases hf
          · cases hf
        have hzs : z.length = ei.size := l1.trans i8.symm
        have hrows : ∀ (q : Nat) r, r ∈ List.replicate q z → r.length = ei.size ∧ ∀ x ∈ r, x.one = true := fun q r hr => by
          obtain ⟨_, rfl⟩ := List.mem_replicate.1 hr
          exact ⟨hzs, fun x hx => by obtain ⟨j, hj, rfl⟩ := List.getElem_of_mem hx; exact (hzr j _ (List.getElem?_eq_getElem hj)).1⟩
        have hmm : m = (m.toNat : Int) := by omega
        have hnm : sameOp l c = true → n = m := fun e => by rw [sameOp_eq e, hc] at hl; cases hl; rfl
        rcases h1 with rfl | rfl
        · obtain ⟨w', r1, r2, r3⟩ := run_make_full (P := cx.P) w 0 t e info zv ei.size t2 i1 i6 i4 kl kc n.toNat (by rw [i5, Nat.mul_comm]; omega) (by simp [maxLen]; omega) (Nat.zero_le _)
          refine ⟨w', .slice (some ⟨w.heap.size, 0, none⟩) n.toNat n.toNat, .slice (some ⟨w.heap.size, 0, none⟩) n.toNat n.toNat, ?_, below_grow r3, fun g hg => by cases hg; exact Nat.le_refl _, fun σ' e1 hF hk hss hl => ⟨?_, ?_⟩⟩
          · rw [← hmm] at r1
            simp [execOp, ho, hlv.int, hcv.int, r1]
          · refine row_ok hss (fun _ => ⟨_, rfl⟩) hk e1 (fun b hb => by cases hb; exact hF _ (Nat.le_refl _)) (by simp) r2 hsz (hrows _) fun i r j x hi hj => ?_
            have hi' : i < n.toNat := by have := (List.getElem?_eq_some_iff.1 hi).1; simpa using this
            obtain ⟨_, rfl⟩ := List.mem_replicate.1 (List.mem_of_getElem? hi)
            have hj' : j < ei.size := by have := (List.getElem?_eq_some_iff.1 hj).1; omega
            exact ⟨_, madeCells_get (by rw [i7, ← i8]) hsz i hi' hj', (hzr j x hj).2⟩
          · have := RepA.own (w := w') (O := E.O) (σ := σ') d hl
            rw [e1] at this; exact this
        · obtain ⟨w', r1, r2, r3⟩ := run_make_own (P := cx.P) w 0 t e info zv ei.size t2 i1 i6 i4 kl kc m.toNat (by rw [i5, Nat.mul_comm]; omega) (by simp [maxLen]; omega) (Nat.zero_le _)
          refine ⟨w', .slice (some ⟨w.heap.size, 0, none⟩) 0 m.toNat, .slice (some ⟨w.heap.size, 0, none⟩) 0 m.toNat, ?_, below_grow r3, fun g hg => by cases hg; exact Nat.le_refl _, fun σ' e1 hF hk hss hl => ⟨?_, ?_⟩⟩
          · rw [← hmm] at r1
            simp [execOp, ho, hlv.int, hcv.int, r1]
          · exact row_ok hss (fun e => ⟨_, by rw [← hnm e]; rfl⟩) hk e1 (fun b hb => by cases hb; exact hF _ (Nat.le_refl _)) (by simp) r2 hsz (hrows _) fun i r j x hi hj => by simp at hi
          · have := RepA.own (w := w') (O := E.O) (σ := σ') d hl
            rw [e1] at this; exact this
      · exact h.elim
    · exact h.elim
  · exact h.elim

theorem toAV_rep {w : World} {O L : Nat → Prop} {σ : Nat → Value} {x : D} {u : Value} (h : Rep w (Own O L σ) x u) : RepA w O L σ x.toAV u := by
  unfold D.toAV
  split
  · rename_i cells
    cases h with | agg _ vs hl h1 hh =>
    refine .agg _ _ (by simpa using hl) fun j c hj => ?_
    rw [List.getElem?_map] at hj
    cases hd : cells[j]? with
    | none => rw [hd] at hj; cases hj
    | some y => rw [hd] at hj; cases hj; exact .d _ _ (hh j y hd)
  · exact .d _ _ h

theorem smFind_run {w : World} {O L : Nat → Prop} {σ : Nat → Value} (b : ByteArray) : ∀ (m : List (List UInt8 × D)) (es : List MapEntry) (i : Nat), es.length = m.length →
    (∀ (j : Nat) k v, m[j]? = some (k, v) → ∃ e, es[j]? = some e ∧ Rep w (Own O L σ) (.str k) e.key ∧ Rep w (Own O L σ) v e.val) →
    (smFind b.data.toList m = none ∧ Instr.findNow .string (.string b) es i = some none) ∨ ∃ j v e, smFind b.data.toList m = some v ∧ Instr.findNow .string (.string b) es i = some (some (i + j, e.val)) ∧ es[j]? = some e ∧ m[j]? = some (b.data.toList, v) ∧ Rep w (Own O L σ) v e.val ∧ e.key = .string b ∧
      ∀ v', smPut b.data.toList v' m = m.set j (b.data.toList, v') := by
  intro m
  induction m with
  | nil => intro es i hl _; obtain rfl : es = [] := List.eq_nil_of_length_eq_zero hl; exact .inl ⟨rfl, rfl⟩
  | cons p m ih =>
    obtain ⟨k, v⟩ := p
    intro es i hl h
    cases es with
    | nil => simp at hl
    | cons e es =>
      obtain ⟨e', he, hk, hv⟩ := h 0 k v rfl
      obtain rfl : e = e' := by simpa using he
      have hk0 := hk
      generalize hkey : e.key = ke at hk
      cases hk with | str _ c hc =>
        by_cases hb : b.data.toList = k
        · have hbc : b = c := by
            have : b.data = c.data := by rw [← Array.toList_inj]; rw [hb, hc]
            cases b; cases c; simp_all
          subst hbc
          refine .inr ⟨0, v, e, by simp [smFind, hb], ?_, rfl, by simp [hb], hv, hkey, fun v' => by simp [smPut, hb]⟩
          have hbb : (b == b) = true := (MapKept.bytes_beq b b).2 rfl
          simp [Instr.findNow, hkey, Instr.sameNow, hbb]
        · have hbc : (b == c) = false := by
            rw [← Bool.not_eq_true]; intro hh
            have : b = c := (MapKept.bytes_beq b c).1 hh
            exact hb (by rw [this]; exact hc)
          have hf : ∀ r, Instr.findNow .string (.string b) (e :: es) i = r ↔ Instr.findNow .string (.string b) es (i + 1) = r := fun r => by
            simp [Instr.findNow, hkey, Instr.sameNow, hbc]
          rcases ih es (i + 1) (by simpa using hl) (fun j k v hj => h (j + 1) k v hj) with ⟨g1, g2⟩ | ⟨j, v', e', g1, g2, g3, g4, g5, g6, g7⟩
          · exact .inl ⟨by simp [smFind, hb, g1], (hf _).2 g2⟩
          · exact .inr ⟨j + 1, v', e', by simp [smFind, hb, g1], (hf _).2 (by rw [g2, show i + 1 + j = i + (j + 1) by omega]), by simpa using g3, by simpa using g4, g5, g6, fun v'' => by simp [smPut, hb, g7]⟩

theorem zeroA_rep {w : World} {O L : Nat → Prop} {σ : Nat → Value} (hT : TyOk cx) {t : TypeId} {i : TI} (hi : cx.ty t = some i) {z : AV} (hz : zeroA i = some z) : ∃ u, (zeroValue t).run cx.P w = .ok u w ∧ RepA w O L σ z u := by
  obtain ⟨info, desc, zv, i1, i2, i3, i4, i5, i6, i7, i8, i9, i10⟩ := hT _ _ hi
  refine ⟨zv, by simp [zeroValue, typeInfo, i1, i6], ?_⟩
  unfold zeroA at hz
  split at hz
  · rename_i ha
    rw [ha] at i10
    obtain ⟨_, vs, rfl⟩ := i10
    cases hz
    exact .agg _ _ i7 fun j c hj => (zeroCell_rep (i9 j c hj)).2
  · rename_i ha
    rw [ha] at i10
    have hc : zv.cells = #[zv] := by cases zv <;> first | rfl | cases i10
    split at hz
    · rename_i c hc'
      cases hz
      have := (zeroCell_rep (w := w) (O := O) (L := L) (σ := σ) (i9 0 _ (by rw [hc']; rfl))).2
      rw [hc] at this; exact this
    · cases hz

theorem ok_lookup (hT : TyOk cx) {o : Oper} {t : TypeId} {x i : Operand} {ok : Bool} (ho : o.op = .lookup t x i ok) (h : lookupK cx st t (st.ev cx x) (st.ev cx i) ok k) : ∃ v bs, OpOk cx o st v bs ∧ k v bs := by
  have he : ∀ ρ, execOp ρ o = (do pure (.value (← Instr.lookup t (ρ x) (ρ i) ok)) : Sem Next) := fun ρ => by simp only [execOp, ho]
  have tup : ∀ {w : World} {O L : Nat → Prop} {σ : Nat → Value} {v : AV} {u : Value} {q : Bool}, RepA w O L σ v u → RepA w O L σ (.tuple [v, .d (.bool q)]) (.tuple #[u, .bool q]) := fun h => by
    refine .tuple _ _ rfl fun j c hj => ?_
    rcases j with _ | _ | j
    · cases hj; exact h
    · cases hj; exact .mkBool _
    · simp at hj
  unfold lookupK at h
  split at h
  · rename_i m hmap
    unfold lookupKm at h
    split at h
    · rename_i cs sz by' kt et zero hi ht
      split at h
      · rename_i kc ks ei hkc hks hei
        split at h
        · rename_i z hz hfit
          obtain ⟨r, hr, h⟩ := h
          have heq := cx.eqOk kt ks hks
          have common : ∀ (E : Env) st' σ a w, st.le st' → SimAt cx E st' σ a w → ∃ v, RepA w E.O (live st'.heap) σ (match r with | some v => v.toAV | none => z) v ∧
              (Instr.lookup t (a.eval x) (a.eval i) ok).run cx.P w = .ok (if ok then .tuple #[v, .bool r.isSome] else v) w := by
            intro E st' σ a w hle hs
            obtain ⟨_, _, _, _, t2, t3, _⟩ := hT _ _ ht
            have t3 := kindOf_map t3
            subst t3
            have hrx := hs.ev hle x
            have hri := hs.ev hle i; rw [hi] at hri
            have hmem : ∃ g es clock, a.eval x = .map (some g) ∧ w.heap[g]? = some (.map es clock) ∧ MapV m es := by
              unfold mapOf at hmap
              split at hmap
              · rename_i s hx
                rw [hx] at hrx
                split at hmap
                · rename_i m' hf
                  cases hmap
                  obtain ⟨g, es, clock, e1, e2, e3, e4⟩ := hs.holds.blk s _ (hle.heap s _ hf)
                  generalize a.eval x = u at hrx
                  cases hrx with | omap _ hL => exact ⟨g, es, clock, e1, e3, e4⟩
                · cases hmap
              · rename_i m' hx
                cases hmap
                rw [hx] at hrx
                generalize a.eval x = u at hrx
                cases hrx with | d _ _ hrx => cases hrx with | kmap _ b clock es hO hB h hm => exact ⟨b, es, clock, rfl, h, hm⟩
              · cases hmap
            obtain ⟨g, es, clock, e1, e3, e4, e5⟩ := hmem
            have hkey : KeyV kc (a.eval i) := by
              generalize a.eval i = u at hri
              cases hri with | agg _ vs hl hh =>
                obtain ⟨l1, l2⟩ := viewL_get hkc
                obtain ⟨f1, f2⟩ := fitK_flat hfit
                refine ⟨vs, rfl, by rw [hl, l1], fun j d hj => ?_⟩
                obtain ⟨c, hc, hd⟩ := l2 j d hj
                exact rep_flatV (freeC_rep hd (hh j c hc)) (f2 d (List.mem_of_getElem? hj))
            have hchk := checkKey_key (w := w) heq hfit hkey es.isEmpty
            have hget : (getObj g).run cx.P w = .ok (.map es clock) w := by simp [getObj, Sem.run, e3]
            rw [e1]
            rcases findAsking_key (w := w) heq hkey m es.toList 0 r (by simpa using e4) (fun j k v hj => by
              obtain ⟨e, he, q⟩ := e5 j k v hj
              exact ⟨e, by rw [Array.getElem?_toList]; exact he, q⟩) hr with ⟨rfl, g2⟩ | ⟨j, v, e, rfl, g2, g3⟩
            · obtain ⟨zu, hzu, hzr⟩ := zeroA_rep (w := w) (O := E.O) (L := live st'.heap) (σ := σ) hT hei hz
              refine ⟨zu, hzr, ?_⟩
              rw [← findKey_key heq] at g2
              simp [Instr.lookup, run_underlying t2, hget, hchk, g2, hzu]
            · refine ⟨e, toAV_rep g3.rep, ?_⟩
              rw [← findKey_key heq] at g2
              simp [Instr.lookup, run_underlying t2, hget, hchk, g2]
          cases r with
          | some v =>
            cases ok with
            | true => exact ⟨_, [], value_of _ he fun E st' σ a w hle hs => by obtain ⟨u, hu, hr⟩ := common E st' σ a w hle hs; exact ⟨_, hr, tup hu⟩, h⟩
            | false => exact ⟨_, [], value_of _ he fun E st' σ a w hle hs => by obtain ⟨u, hu, hr⟩ := common E st' σ a w hle hs; exact ⟨_, hr, hu⟩, h⟩
          | none =>
            cases ok with
            | true => exact ⟨_, [], value_of _ he fun E st' σ a w hle hs => by obtain ⟨u, hu, hr⟩ := common E st' σ a w hle hs; exact ⟨_, hr, tup hu⟩, h⟩
            | false => exact ⟨_, [], value_of _ he fun E st' σ a w hle hs => by obtain ⟨u, hu, hr⟩ := common E st' σ a w hle hs; exact ⟨_, hr, hu⟩, h⟩
        · exact h.elim
      · exact h.elim
    · exact h.elim
  split at h
  · rename_i s b sz by' kt et zero hx hi ht
    split at h
    · rename_i m ei hf hstr hei
      split at h
      · rename_i z hz
        obtain ⟨ki, hk1, hk2⟩ := isStr_ok hstr
        have common : ∀ (E : Env) st' σ a w, st.le st' → SimAt cx E st' σ a w → ∃ v, RepA w E.O (live st'.heap) σ (match smFind b m with | some v => v.toAV | none => z) v ∧
            (Instr.lookup t (a.eval x) (a.eval i) ok).run cx.P w = .ok (if ok then .tuple #[v, .bool (smFind b m).isSome] else v) w := by
          intro E st' σ a w hle hs
          obtain ⟨_, _, _, _, t2, t3, _⟩ := hT _ _ ht
          have t3 := kindOf_map t3
          subst t3
          obtain ⟨_, _, _, _, k2, k3, _⟩ := hT _ _ hk1
          rw [hk2] at k3; obtain rfl := kindOf_str k3
          have hrx := hs.ev hle x; rw [hx] at hrx
          have hri := hs.ev hle i; rw [hi] at hri
          obtain ⟨bb, hbb, rfl⟩ := hri.str
          obtain ⟨g, es, clock, e1, e2, e3, e4, e5⟩ := hs.holds.blk s _ (hle.heap s _ hf)
          generalize a.eval x = u at hrx
          cases hrx with | omap _ hL =>
            rw [e1, hbb]
            have hchk : (Instr.checkKey es.isEmpty 10000 kt (.string bb)).run cx.P w = .ok () w := MapKept.run_checkKey (n := 9999) k2 (by simp [MapKept.IsKey]) _
            have hget : (getObj g).run cx.P w = .ok (.map es clock) w := by simp [getObj, Sem.run, e3]
            rcases smFind_run (w := w) (O := E.O) (L := live st'.heap) (σ := σ) bb m es.toList 0 (by simpa using e4) (fun j k v hj => by
              obtain ⟨e, he, r⟩ := e5 j k v hj
              exact ⟨e, by rw [Array.getElem?_toList]; exact he, r⟩) with ⟨g1, g2⟩ | ⟨j, v, e, g1, g2, g3, g4, g5, g6, _⟩
            · obtain ⟨zu, hzu, hzr⟩ := zeroA_rep (w := w) (O := E.O) (L := live st'.heap) (σ := σ) hT hei hz
              refine ⟨zu, by rw [g1]; exact hzr, ?_⟩
              rw [g1]
              simp [Instr.lookup, run_underlying t2, hget, hchk, Instr.findKey, run_underlying k2, g2, hzu]
            · refine ⟨e.val, by rw [g1]; exact toAV_rep g5, ?_⟩
              rw [g1]
              simp [Instr.lookup, run_underlying t2, hget, hchk, Instr.findKey, run_underlying k2, g2]
        have tup : ∀ {w : World} {O L : Nat → Prop} {σ : Nat → Value} {v : AV} {u : Value} {q : Bool}, RepA w O L σ v u → RepA w O L σ (.tuple [v, .d (.bool q)]) (.tuple #[u, .bool q]) := fun h => by
          refine .tuple _ _ rfl fun j c hj => ?_
          rcases j with _ | _ | j
          · cases hj; exact h
          · cases hj; exact .mkBool _
          · simp at hj
        split at h
        · rename_i v hv
          rw [hv] at common
          cases ok with
          | true => exact ⟨_, [], value_of _ he fun E st' σ a w hle hs => by obtain ⟨u, hu, hr⟩ := common E st' σ a w hle hs; exact ⟨_, hr, tup hu⟩, h⟩
          | false => exact ⟨_, [], value_of _ he fun E st' σ a w hle hs => by obtain ⟨u, hu, hr⟩ := common E st' σ a w hle hs; exact ⟨_, hr, hu⟩, h⟩
        · rename_i hv
          rw [hv] at common
          cases ok with
          | true => exact ⟨_, [], value_of _ he fun E st' σ a w hle hs => by obtain ⟨u, hu, hr⟩ := common E st' σ a w hle hs; exact ⟨_, hr, tup hu⟩, h⟩
          | false => exact ⟨_, [], value_of _ he fun E st' σ a w hle hs => by obtain ⟨u, hu, hr⟩ := common E st' σ a w hle hs; exact ⟨_, hr, hu⟩, h⟩
      · exact h.elim
    · exact h.elim
  · exact h.elim

theorem fill_rows {size : Nat} : ∀ (us : List Value) (i : Nat) (cells : Array Value), (∀ u ∈ us, u.cells.size = size) → (i + us.length) * size ≤ cells.size →
    ∃ vs, Instr.fill (fun i => some (i * size, size)) cells ((us.zipIdx i).map fun p => (p.2, p.1)) = some vs ∧ vs.size = cells.size ∧
      (∀ q, q < i * size → vs.getD q Go.undef = cells.getD q Go.undef) ∧ ∀ (r : Nat) u, us[r]? = some u → ∀ j, j < size → vs.getD ((i + r) * size + j) Go.undef = u.cells.getD j Go.undef := by
  intro us
  induction us with
  | nil => intro i cells _ _; exact ⟨cells, rfl, rfl, fun _ _ => rfl, fun r u h => by simp at h⟩
  | cons u t ih =>
    intro i cells hu hle
    have hs := hu u (by simp)
    have e1 : (i + (u :: t).length) * size = i * size + size + t.length * size := by simp [Nat.add_mul, Nat.add_comm]; omega
    have hfold := fun q => foldl_set u.cells.toList cells (i * size) 0 q (by simp only [Array.length_toList, hs]; have := Nat.zero_le (t.length * size); omega)
    obtain ⟨vs, v1, v2, v3, v4⟩ := ih (i + 1) (u.cells.zipIdx.foldl (fun cs (c, j) => cs.setIfInBounds (i * size + j) c) cells) (fun x hx => hu x (by simp [hx])) (by
      rw [← Array.foldl_toList, Array.toList_zipIdx, (hfold 0).1]
      have : (i + 1 + t.length) * size = (i + (u :: t).length) * size := by simp; congr 1; omega
      omega)
    have hg : ∀ q, (u.cells.zipIdx.foldl (fun cs (c, j) => cs.setIfInBounds (i * size + j) c) cells).getD q Go.undef = if i * size + 0 ≤ q ∧ q < i * size + 0 + u.cells.toList.length then u.cells.toList.getD (q - (i * size + 0)) Go.undef else cells.getD q Go.undef := fun q => by
      rw [← (hfold q).2, ← Array.foldl_toList, Array.toList_zipIdx]
    have hsz : (u.cells.zipIdx.foldl (fun cs (c, j) => cs.setIfInBounds (i * size + j) c) cells).size = cells.size := by
      rw [← (hfold 0).1, ← Array.foldl_toList, Array.toList_zipIdx]
    refine ⟨vs, ?_, v2.trans hsz, fun q hq => ?_, fun r x hr j hj => ?_⟩
    · simp only [List.zipIdx_cons, List.map_cons, Instr.fill]
      rw [if_neg (by simp [hs]; omega)]
      exact v1
    · rw [v3 q (by rw [Nat.add_mul]; omega), hg, if_neg (by simp; omega)]
    · cases r with
      | zero =>
        simp at hr; subst hr
        rw [Nat.add_zero, v3 _ (by rw [Nat.add_mul]; omega), hg, if_pos (by simp [hs]; omega)]
        simp
      | succ r =>
        have := v4 r x (by simpa using hr) j hj
        rw [show i + (r + 1) = i + 1 + r by omega]; exact this

theorem SimAt.ownLt' {E : Env} {σ : Nat → Value} {a : Act} {w : World} (h : SimAt cx E st σ a w) (b : Nat) (hb : Own E.O (live st.heap) σ b) : b < w.heap.size := by
  rcases hb with hb | ⟨s, hs, e⟩
  · rcases Nat.lt_or_ge b E.w0.heap.size with hl | hg
    · exact Nat.lt_of_lt_of_le hl h.frame.size
    · exact absurd (h.new b hg) (h.apart b hb)
  · exact (h.holds.home hs e).2
theorem rowsA_ok {E : Env} {st' : St} {σ : Nat → Value} {a : Act} {w : World} (hle : st.le st') (hs : SimAt cx E st' σ a w) {size : Nat} : ∀ (parts : List (Nat × Operand)) (i : Nat) (rows : List (List D)), rowsA st cx size i parts = some rows →
    rows.length = parts.length ∧ (∀ r ∈ rows, r.length = size ∧ ∀ x ∈ r, x.one = true) ∧ (parts.map fun p => (p.1, a.eval p.2)) = ((parts.map fun p => a.eval p.2).zipIdx i).map (fun p => (p.2, p.1)) ∧
    (∀ u ∈ parts.map (fun p => a.eval p.2), u.cells.size = size) ∧ ∀ (r : Nat) row, rows[r]? = some row → ∃ u, (parts.map fun p => a.eval p.2)[r]? = some u ∧ ∀ j d, row[j]? = some d → Rep w (Own E.O (live st'.heap) σ) d (u.cells.getD j Go.undef) := by
  intro parts
  induction parts with
  | nil => intro i rows h; cases h; exact ⟨rfl, fun r h => by simp at h, rfl, fun u h => by simp at h, fun r row h => by simp at h⟩
  | cons p t ih =>
    obtain ⟨q, x⟩ := p
    intro i rows h
    simp only [rowsA] at h
    split at h
    · rename_i hq
      obtain rfl : i = q := Nat.eq_of_beq_eq_true hq
      split at h
      · rename_i cs hcs
        split at h
        · rename_i ds hds
          split at h
          · rename_i rs e1 e2 hrs
            cases h
            have e1 : ds.length = size := Nat.eq_of_beq_eq_true e1
            obtain ⟨k1, k2⟩ := cellsOf_rep hcs hs.one (hs.ev hle x)
            obtain ⟨l1, l2⟩ := viewL_get hds
            obtain ⟨i1, i2, i3, i4, i5⟩ := ih (i + 1) rs hrs
            refine ⟨by simp [i1], fun r hr => ?_, by simp [i3], fun u hu => ?_, fun r row hr => ?_⟩
            · rcases List.mem_cons.1 hr with rfl | hr
              · exact ⟨e1, fun y hy => List.all_eq_true.1 e2 y hy⟩
              · exact i2 r hr
            · simp only [List.map_cons, List.mem_cons] at hu
              rcases hu with rfl | hu
              · rw [k1, ← l1, e1]
              · exact i4 u hu
            · cases r with
              | zero =>
                simp at hr; subst hr
                refine ⟨a.eval x, rfl, fun j d hj => ?_⟩
                obtain ⟨c, hc, hd⟩ := l2 j d hj
                exact freeF_rep hd (k2 j c hc)
              | succ r => simpa using i5 r row (by simpa using hr)
          · cases h
        · cases h
      · cases h
    · cases h

theorem rowsV_ok {E : Env} {st' : St} {σ : Nat → Value} {a : Act} {w : World} (hle : st.le st') (hs : SimAt cx E st' σ a w) {size : Nat} : ∀ (parts : List (Nat × Operand)) (i : Nat) (rows : List (List AV)), rowsV st cx size i parts = some rows →
    rows.length = parts.length ∧ (∀ r ∈ rows, r.length = size ∧ ∀ x ∈ r, x.one = true) ∧ (parts.map fun p => (p.1, a.eval p.2)) = ((parts.map fun p => a.eval p.2).zipIdx i).map (fun p => (p.2, p.1)) ∧
    (∀ u ∈ parts.map (fun p => a.eval p.2), u.cells.size = size) ∧ ∀ (r : Nat) row, rows[r]? = some row → ∃ u, (parts.map fun p => a.eval p.2)[r]? = some u ∧ ∀ j d, row[j]? = some d → RepA w E.O (live st'.heap) σ d (u.cells.getD j Go.undef) := by
  intro parts
  induction parts with
  | nil => intro i rows h; cases h; exact ⟨rfl, fun r h => by simp at h, rfl, fun u h => by simp at h, fun r row h => by simp at h⟩
  | cons p rest ih =>
    obtain ⟨j, x⟩ := p
    intro i rows h
    simp only [rowsV] at h
    split at h
    · rename_i hij
      obtain rfl : i = j := Nat.eq_of_beq_eq_true hij
      split at h
      · rename_i cs0 hcs0
        split at h
        · rename_i cs hcs
          obtain rfl := normL_eq hcs
          split at h
          · rename_i rs e1 e2 hrs
            cases h
            have e1 : cs.length = size := Nat.eq_of_beq_eq_true e1
            obtain ⟨k1, k2⟩ := cellsOf_rep hcs0 hs.one (hs.ev hle x)
            obtain ⟨i1, i2, i3, i4, i5⟩ := ih (i + 1) rs hrs
            refine ⟨by simp [i1], fun r hr => ?_, by simp [i3], fun u hu => ?_, fun r row hr => ?_⟩
            · rcases List.mem_cons.1 hr with rfl | hr
              · exact ⟨e1, fun y hy => List.all_eq_true.1 e2 y hy⟩
              · exact i2 r hr
            · simp only [List.map_cons, List.mem_cons] at hu
              rcases hu with rfl | hu
              · rw [k1, e1]
              · exact i4 u hu
            · cases r with
              | zero =>
                simp at hr; subst hr
                exact ⟨a.eval x, rfl, fun j d hj => k2 j d hj⟩
              | succ r => simpa using i5 r row (by simpa using hr)
          · cases h
        · cases h
      · cases h
    · cases h

theorem ok_buildSlice (hT : TyOk cx) {o : Oper} {t : TypeId} {len : Nat} {parts : Array (Nat × Operand)} (ho : o.op = .buildSlice t len parts) (h : opK cx o.dst o.type st (.buildSlice t len parts) k) : ∃ v bs, OpOk cx o st v bs ∧ k v bs := by
  simp only [opK] at h
  split at h
  · rename_i d e ei hd hse
    split at h
    · rename_i rows hrows
      split at h
      · rename_i b1 b2 b3 b4
        have b1 : rows.length = len := Nat.eq_of_beq_eq_true b1
        have b2 : len * ei.size ≤ 16777216 := Nat.le_of_ble_eq_true b2
        have b3 : 1 ≤ ei.size := Nat.le_of_ble_eq_true b3
        obtain ⟨ti, ht, hkd, hei⟩ := sliceElem_ok hse
        refine ⟨_, _, OpOk.new (by rw [ho]; rfl) (by assumption) fun E st' σ a w hle hs => ?_, h⟩
        obtain ⟨_, _, _, _, t2, t3, _⟩ := hT _ _ ht
        rw [hkd] at t3; obtain rfl := kindOf_slice t3
        obtain ⟨info, desc, zv, i1, i2, i3, i4, i5, i6, i7, i8, i9, i10⟩ := hT _ _ hei
        obtain ⟨_, r2⟩ := isAgg_run (w := w) hT hei
        obtain ⟨p1, p2, p3, p4, p5⟩ := rowsA_ok hle hs parts.toList 0 rows hrows
        have plen : parts.toList.length = len := by omega
        obtain ⟨zc, hzc⟩ : ∃ zc : Array Value, zc = if len * ei.size = 0 then #[] else zv.cells := ⟨_, rfl⟩
        obtain ⟨vs, v1, v2, _, v4⟩ := fill_rows (size := ei.size) (parts.toList.map fun p => a.eval p.2) 0 ((Array.range (len * ei.size)).map (zc[· % zc.size]!)) p4 (by simp only [List.length_map, Nat.zero_add, plen, Array.size_map, Array.size_range]; exact Nat.le_refl _)
        refine ⟨w.alloc (.cells vs e), .slice (some ⟨w.heap.size, 0, none⟩) len len, .slice (some ⟨w.heap.size, 0, none⟩) len len, ?_, below_new _ _, fun g hg => by cases hg; exact Nat.le_refl _, fun σ' e1 hF hk hss hl => ⟨?_, ?_⟩⟩
        · have hpm : (parts.map fun (x : Nat × Operand) => (x.1, a.eval x.2)).toList = ((parts.toList.map fun p => a.eval p.2).zipIdx 0).map (fun p => (p.2, p.1)) := by rw [← p3]; simp
          have hzr : (if len * ei.size = 0 then pure #[] else do pure (← zeroValue e).cells : Sem (Array Value)).run cx.P w = .ok zc w := by
            rw [hzc]; split <;> simp [zeroValue, typeInfo, i1, i6]
          have hnot : ¬ (len * ei.size > 2 ^ 24) := by omega
          have hnot' : ¬ 16777216 < len * ei.size := by omega
          simp only [execOp, ho, Instr.buildSlice, hpm]
          by_cases hz0 : len * ei.size = 0
          · rw [if_pos hz0] at hzc
            subst hzc
            have hmap : ∀ f : Nat → Value, (Array.range (len * ei.size)).map f = #[] := fun f => by rw [hz0]; simp [Array.range]
            have hmap0 : ∀ f : Nat → Value, (Array.range 0).map f = #[] := fun f => by simp [Array.range]
            rw [hmap] at v1
            simp [run_underlying t2, r2, hnot', hz0, hmap0, v1, newRow, newObj, Sem.run]
          · rw [if_neg hz0] at hzc
            subst hzc
            simp [run_underlying t2, r2, hnot', hz0, v1, newRow, newObj, Sem.run, zeroValue, typeInfo, i1, i6]
        · refine row_ok (fl := false) hss (fun e => by cases e) hk e1 (fun b hb => by cases hb; exact hF _ (Nat.le_refl _)) b1 (xs := vs.toList) ⟨?_, .inr ⟨w.heap.size, len, vs, rfl, Nat.zero_le _, heap_alloc_new w _, Nat.le_refl _, ?_, ?_, ?_⟩⟩ b3 p2 fun i r j x hi hj => ?_
          · simp [v2]
          · simp only [maxLen]; have : len * 1 ≤ len * ei.size := Nat.mul_le_mul_left _ b3; omega
          · simp [v2]
          · rw [List.take_of_length_le]; simp [v2]
          · obtain ⟨u, hu, hr⟩ := p5 i r hi
            have hj' : j < ei.size := by have := (List.getElem?_eq_some_iff.1 hj).1; rw [(p2 r (List.mem_of_getElem? hi)).1] at this; exact this
            have hlt : i < len := by have := (List.getElem?_eq_some_iff.1 hi).1; omega
            have hq : i * ei.size + j < vs.size := by
              have : (i + 1) * ei.size ≤ len * ei.size := Nat.mul_le_mul_right _ hlt
              rw [Nat.add_mul] at this; simp [v2]; omega
            have := v4 i u hu j hj'
            rw [Nat.zero_add] at this
            refine ⟨vs[i * ei.size + j], by simp [hq], ?_⟩
            rw [show vs[i * ei.size + j] = u.cells.getD j Go.undef by rw [← this]; simp [hq]]
            exact hr j x hj
        · have := RepA.own (w := w.alloc (.cells vs e)) (O := E.O) (σ := σ') d hl
          rw [e1] at this; exact this
      · rename_i b1 b2 b3 b4
        have b1 : rows.length = len := Nat.eq_of_beq_eq_true b1
        have b2 : len * ei.size ≤ 16777216 := Nat.le_of_ble_eq_true b2
        have b3 : 1 ≤ ei.size := Nat.le_of_ble_eq_true b3
        obtain ⟨ti, ht, hkd, hei⟩ := sliceElem_ok hse
        refine ⟨_, _, OpOk.acts (by rw [ho]; rfl) fun E st' a w Q hle hd hfresh ⟨σ, hs⟩ => ?_, h⟩
        obtain ⟨_, _, _, _, t2, t3, _⟩ := hT _ _ ht
        rw [hkd] at t3; obtain rfl := kindOf_slice t3
        obtain ⟨info, desc, zv, i1, i2, i3, i4, i5, i6, i7, i8, i9, i10⟩ := hT _ _ hei
        obtain ⟨_, r2⟩ := isAgg_run (w := w) hT hei
        obtain ⟨p1, p2, p3, p4, p5⟩ := rowsA_ok hle hs parts.toList 0 rows hrows
        have plen : parts.toList.length = len := by omega
        obtain ⟨zc, hzc⟩ : ∃ zc : Array Value, zc = if len * ei.size = 0 then #[] else zv.cells := ⟨_, rfl⟩
        obtain ⟨vs, v1, v2, _, v4⟩ := fill_rows (size := ei.size) (parts.toList.map fun p => a.eval p.2) 0 ((Array.range (len * ei.size)).map (zc[· % zc.size]!)) p4 (by simp only [List.length_map, Nat.zero_add, plen, Array.size_map, Array.size_range]; exact Nat.le_refl _)
        have hrun : (execOp a.eval o).run cx.P w = .ok (.value (.slice (some ⟨w.heap.size, 0, none⟩) len len)) (w.alloc (.cells vs e)) := by
          have hpm : (parts.map fun (x : Nat × Operand) => (x.1, a.eval x.2)).toList = ((parts.toList.map fun p => a.eval p.2).zipIdx 0).map (fun p => (p.2, p.1)) := by rw [← p3]; simp
          have hnot' : ¬ 16777216 < len * ei.size := by omega
          simp only [execOp, ho, Instr.buildSlice, hpm]
          by_cases hz0 : len * ei.size = 0
          · rw [if_pos hz0] at hzc
            subst hzc
            have hmap : ∀ f : Nat → Value, (Array.range (len * ei.size)).map f = #[] := fun f => by rw [hz0]; simp [Array.range]
            have hmap0 : ∀ f : Nat → Value, (Array.range 0).map f = #[] := fun f => by simp [Array.range]
            rw [hmap] at v1
            simp [run_underlying t2, r2, hnot', hz0, hmap0, v1, newRow, newObj, Sem.run]
          · rw [if_neg hz0] at hzc
            subst hzc
            simp [run_underlying t2, r2, hnot', hz0, v1, newRow, newObj, Sem.run, zeroValue, typeInfo, i1, i6]
        simp only [Oper.wp, hrun, Oper.upon]
        have hbel := below_new w (.cells vs e)
        have hk : Keeps w (w.alloc (.cells vs e)) (Own E.O (live st'.heap) σ) (Own E.O (live st'.heap) σ) := ⟨hbel.size, fun x _ hx => hbel.block x hx, fun _ h _ => h⟩
        refine ⟨σ, hs.grow hd (fun s _ => rfl) hbel (fun q0 B hB hl => by simp [live, find] at hl) (fun s b hl => by simp [live, find] at hl) (fun s s' b hl => by simp [live, find] at hl) (fun s b hb => by simp [find] at hb) ?_⟩
        have hno : ¬ Own E.O (live ([] ++ st'.heap)) σ w.heap.size := fun hO => by
          have := hs.ownLt' _ hO
          omega
        refine .d _ _ ?_
        refine .slice ei.size rows w.heap.size 0 len len (fun i j => vs.getD (i * ei.size + j) Go.undef) b1 hno (Array.getElem?_eq_some_iff.1 (heap_alloc_new w (.cells vs e))).1 (Nat.le_refl _) p2 (fun i r j d hi hj => ?_) (fun i r j d hi hj => ?_)
        · have hj' : j < ei.size := by have := (List.getElem?_eq_some_iff.1 hj).1; rw [(p2 r (List.mem_of_getElem? hi)).1] at this; exact this
          have hlt : i < len := by have := (List.getElem?_eq_some_iff.1 hi).1; omega
          have hq : i * ei.size + j < vs.size := by
            have : (i + 1) * ei.size ≤ len * ei.size := Nat.mul_le_mul_right _ hlt
            rw [Nat.add_mul] at this; simp [v2]; omega
          have hnew := heap_alloc_new w (.cells vs e)
          simp only [World.cell?, hnew, Nat.zero_add]
          simp [hq]
        · obtain ⟨u, hu, hr⟩ := p5 i r hi
          have hj' : j < ei.size := by have := (List.getElem?_eq_some_iff.1 hj).1; rw [(p2 r (List.mem_of_getElem? hi)).1] at this; exact this
          have := v4 i u hu j hj'
          rw [Nat.zero_add] at this
          rw [this]
          exact (hr j d hj).mono hk
      · exact h.elim
    · split at h
      · rename_i rows hrows
        split at h
        · rename_i b1 b2 b3
          have b1 : rows.length = len := Nat.eq_of_beq_eq_true b1
          have b2 : len * ei.size ≤ 16777216 := Nat.le_of_ble_eq_true b2
          have b3 : 1 ≤ ei.size := Nat.le_of_ble_eq_true b3
          obtain ⟨ti, ht, hkd, hei⟩ := sliceElem_ok hse
          refine ⟨_, _, OpOk.new (by rw [ho]; rfl) (by assumption) fun E st' σ a w hle hs => ?_, h⟩
          obtain ⟨_, _, _, _, t2, t3, _⟩ := hT _ _ ht
          rw [hkd] at t3; obtain rfl := kindOf_slice t3
          obtain ⟨info, desc, zv, i1, i2, i3, i4, i5, i6, i7, i8, i9, i10⟩ := hT _ _ hei
          obtain ⟨_, r2⟩ := isAgg_run (w := w) hT hei
          obtain ⟨p1, p2, p3, p4, p5⟩ := rowsV_ok hle hs parts.toList 0 rows hrows
          have plen : parts.toList.length = len := by omega
          obtain ⟨zc, hzc⟩ : ∃ zc : Array Value, zc = if len * ei.size = 0 then #[] else zv.cells := ⟨_, rfl⟩
          obtain ⟨vs, v1, v2, _, v4⟩ := fill_rows (size := ei.size) (parts.toList.map fun p => a.eval p.2) 0 ((Array.range (len * ei.size)).map (zc[· % zc.size]!)) p4 (by simp only [List.length_map, Nat.zero_add, plen, Array.size_map, Array.size_range]; exact Nat.le_refl _)
          refine ⟨w.alloc (.cells vs e), .slice (some ⟨w.heap.size, 0, none⟩) len len, .slice (some ⟨w.heap.size, 0, none⟩) len len, ?_, below_new _ _, fun g hg => by cases hg; exact Nat.le_refl _, fun σ' e1 hF hk hss hl => ⟨?_, ?_⟩⟩
          · have hpm : (parts.map fun (x : Nat × Operand) => (x.1, a.eval x.2)).toList = ((parts.toList.map fun p => a.eval p.2).zipIdx 0).map (fun p => (p.2, p.1)) := by rw [← p3]; simp
            have hzr : (if len * ei.size = 0 then pure #[] else do pure (← zeroValue e).cells : Sem (Array Value)).run cx.P w = .ok zc w := by
              rw [hzc]; split <;> simp [zeroValue, typeInfo, i1, i6]
            have hnot : ¬ (len * ei.size > 2 ^ 24) := by omega
            have hnot' : ¬ 16777216 < len * ei.size := by omega
            simp only [execOp, ho, Instr.buildSlice, hpm]
            by_cases hz0 : len * ei.size = 0
            · rw [if_pos hz0] at hzc
              subst hzc
              have hmap : ∀ f : Nat → Value, (Array.range (len * ei.size)).map f = #[] := fun f => by rw [hz0]; simp [Array.range]
              have hmap0 : ∀ f : Nat → Value, (Array.range 0).map f = #[] := fun f => by simp [Array.range]
              rw [hmap] at v1
              simp [run_underlying t2, r2, hnot', hz0, hmap0, v1, newRow, newObj, Sem.run]
            · rw [if_neg hz0] at hzc
              subst hzc
              simp [run_underlying t2, r2, hnot', hz0, v1, newRow, newObj, Sem.run, zeroValue, typeInfo, i1, i6]
          · refine ⟨w.heap.size, vs, e, by rw [e1, b1], hF _ (Nat.le_refl _), heap_alloc_new w _, fun r hr => (p2 r hr).1, fun i r j x hi hj => ?_⟩
            obtain ⟨u, hu, hr⟩ := p5 i r hi
            have hj' : j < ei.size := by have := (List.getElem?_eq_some_iff.1 hj).1; rw [(p2 r (List.mem_of_getElem? hi)).1] at this; exact this
            have hlt : i < len := by have := (List.getElem?_eq_some_iff.1 hi).1; omega
            have hq : i * ei.size + j < vs.size := by
              have : (i + 1) * ei.size ≤ len * ei.size := Nat.mul_le_mul_right _ hlt
              rw [Nat.add_mul] at this; simp [v2]; omega
            have := v4 i u hu j hj'
            rw [Nat.zero_add] at this
            refine ⟨⟨.inl ((p2 r (List.mem_of_getElem? hi)).2 x (List.mem_of_getElem? hj)), hq⟩, ?_⟩
            rw [this]
            exact (hr j x hj).mono hk hss
          · have := RepA.own (w := w.alloc (.cells vs e)) (O := E.O) (σ := σ') d hl
            rw [e1] at this; exact this
        · exact h.elim
      · exact h.elim
  · exact h.elim
end
end NQ
