/-
  Texts of the proof of the law DenialComplete, merged in build order.
-/
import Derived.Test.YtjecmfajdofamaaGreatDoorQdM
import Derived.Laws.Cells
import Derived.Laws.Entries
import Derived.Laws.Small
import Derived.Laws.StructEq
import Derived.Lib.SliceRun
/-
  Operations on plain data: addresses, loads, parts, lengths.
-/
set_option linter.unusedSimpArgs false
set_option linter.unusedVariables false
namespace NQ
open Go Go.RowKit

theorem addr_add (b o n : Nat) : Addr.add ⟨b, o, none⟩ n = ⟨b, o + n, none⟩ := by
  unfold Addr.add; split
  · rename_i h; subst h; rfl
  · rfl

section
variable {P : Program} {w : World} {O L : Nat → Prop} {σ : Nat → Value}

theorem addA_run {x r : AV} {n : Nat} (h : addA x n = some r) {u : Value} (hx : RepA w O L σ x u) : ∃ b o, u = .pointer (some ⟨b, o, none⟩) ∧ RepA w O L σ r (.pointer (some ⟨b, o + n, none⟩)) := by
  unfold addA at h
  split at h
  · cases h; cases hx with | ptr s off b hL hs => exact ⟨b, _, rfl, .ptr _ _ b hL hs⟩
  · cases h; cases hx with | rptr s size i off b m cap hL hs => exact ⟨b, _, rfl, by rw [Nat.add_assoc]; exact .rptr _ _ _ _ b m cap hL hs⟩
  · cases h
    cases hx with | d _ _ hx => cases hx with | ptr cells B off us hO hB hone h1 h2 =>
      refine ⟨B, off, rfl, .d _ _ (.ptr _ B (off + n) (fun j => us (n + j)) hO hB (fun d hd => hone d (List.mem_of_mem_drop hd)) (fun j d hj => ?_) (fun j d hj => ?_))⟩
      · rw [List.getElem?_drop] at hj; rw [Nat.add_assoc]; exact h1 _ d hj
      · rw [List.getElem?_drop] at hj; exact h2 _ d hj
  · cases h

theorem kindOf_struct {d : TypeDesc} {fs : List (Nat × TypeId)} (h : kindOf d = .struct fs) : ∃ g, d = .struct g ∧ fs = g.toList.map fun f => (f.offset, f.type) := by
  cases d <;> simp [kindOf] at h
  rename_i g; exact ⟨g, rfl, h.symm⟩
theorem kindOf_slice {d : TypeDesc} {e : TypeId} (h : kindOf d = .slice e) : d = .slice e := by
  cases d <;> simp [kindOf] at h; rw [h]
theorem kindOf_array {d : TypeDesc} {n : Nat} {e : TypeId} (h : kindOf d = .array n e) : d = .array n e := by
  cases d <;> simp [kindOf] at h; rw [h.1, h.2]
theorem kindOf_str {d : TypeDesc} (h : kindOf d = .str) : d = .string := by
  cases d <;> simp [kindOf] at h; rfl
theorem kindOf_int {d : TypeDesc} {k : IntKind} (h : kindOf d = .int k) : d = .int k := by
  cases d <;> simp [kindOf] at h; rw [h]
theorem kindOf_bool {d : TypeDesc} (h : kindOf d = .bool) : d = .bool := by
  cases d <;> simp [kindOf] at h; rfl
theorem kindOf_map {d : TypeDesc} {k e : TypeId} (h : kindOf d = .map k e) : d = .map k e := by
  cases d <;> simp [kindOf] at h; rw [h.1, h.2]

def fieldOf (cx : Cx) (s : TypeId) (f : Nat) : Option (Nat × TI) :=
  match cx.ty s with
  | some ⟨_, _, .struct fs, _⟩ => (match fs[f]? with | some (off, ft) => (match cx.ty ft with | some i => some (off, i) | none => none) | none => none)
  | _ => none

theorem fieldOf_ok {cx : Cx} (hT : TyOk cx) {s : TypeId} {f off : Nat} {i : TI} (h : fieldOf cx s f = some (off, i)) :
    ∃ g fld, cx.P.underlying s = some (.struct g) ∧ g[f]? = some fld ∧ fld.offset = off ∧ cx.ty fld.type = some i := by
  unfold fieldOf at h
  split at h
  · rename_i fs _ hs
    split at h
    · rename_i o ft hf
      split at h
      · rename_i j hj
        cases h
        obtain ⟨info, desc, z, h1, h2, h3, _⟩ := hT s _ hs
        obtain ⟨g, rfl, rfl⟩ := kindOf_struct h3
        rw [List.getElem?_map] at hf
        cases hg : g.toList[f]? with
        | none => rw [hg] at hf; cases hf
        | some fld => rw [hg] at hf; cases hf; exact ⟨g, fld, h2, by rw [← Array.getElem?_toList]; exact hg, rfl, hj⟩
      · cases h
    · cases h
  · cases h

def fieldAddrA (cx : Cx) (s : TypeId) (x : AV) (f : Nat) : Option AV :=
  match fieldOf cx s f with
  | some (off, i) => (match Nat.beq i.size 0 with | false => addA x off | true => none)
  | none => none

theorem fieldAddrA_run {cx : Cx} (hT : TyOk cx) {s : TypeId} {x r : AV} {f : Nat} (h : fieldAddrA cx s x f = some r) {u : Value} (hx : RepA w O L σ x u) :
    ∃ z, (Instr.fieldAt s u f).run cx.P w = .ok z w ∧ RepA w O L σ r z := by
  unfold fieldAddrA at h
  split at h
  · rename_i off i hf
    split at h
    · rename_i hz
      obtain ⟨g, fld, h1, h2, h3, h4⟩ := fieldOf_ok hT hf
      obtain ⟨info, desc, zz, i1, _, _, i4, _⟩ := hT _ _ h4
      obtain ⟨b, o, rfl, hr⟩ := addA_run h hx
      refine ⟨_, ?_, hr⟩
      have hne : info.size ≠ 0 := by rw [i4]; intro e; rw [e] at hz; cases hz
      simp [Instr.fieldAt, run_underlying h1, h2, Instr.sureAddr, fieldPlace, Go.sizeOf, typeInfo, i1, hne, h3, addr_add]
    · cases h
  · cases h

/-- The thing of a type at the head of some cells. -/
def takeA (cx : Cx) (t : TypeId) (cs : List AV) : Option AV :=
  match cx.ty t with
  | some i => (match i.kind.isAgg with
    | true => (match Nat.ble i.size cs.length with | true => some (.agg (cs.take i.size)) | false => none)
    | false => (match cs with | .undef :: _ => none | c :: _ => some c | [] => none))
  | none => none

theorem isAgg_run {cx : Cx} (hT : TyOk cx) {t : TypeId} {i : TI} (h : cx.ty t = some i) : (isAgg t).run cx.P w = .ok i.kind.isAgg w ∧ (Go.sizeOf t).run cx.P w = .ok i.size w := by
  obtain ⟨info, desc, z, h1, h2, h3, h4, _⟩ := hT t i h
  refine ⟨?_, by simp [Go.sizeOf, typeInfo, h1, h4]⟩
  rw [← h3]
  cases desc <;> simp [isAgg, run_underlying h2, kindOf, K.isAgg]

theorem takeA_load {cx : Cx} (hT : TyOk cx) {t : TypeId} {cs : List AV} {r : AV} (h : takeA cx t cs = some r) {b o : Nat} (us : Nat → Value)
    (h1 : ∀ j c, cs[j]? = some c → w.cell? ⟨b, o + j, none⟩ = some (us j)) (h2 : ∀ j c, cs[j]? = some c → RepA w O L σ c (us j)) :
    ∃ z, (Instr.loadAt t (.pointer (some ⟨b, o, none⟩))).run cx.P w = .ok z w ∧ RepA w O L σ r z := by
  unfold takeA at h
  split at h
  · rename_i i hi
    obtain ⟨r1, r2⟩ := isAgg_run (w := w) hT hi
    split at h
    · rename_i hagg
      split at h
      · rename_i hle
        cases h
        have hle : i.size ≤ cs.length := Nat.le_of_ble_eq_true hle
        have hl := run_loadCells (P := cx.P) (w := w) ⟨b, o, none⟩ i.size us (fun j hj => by
          rw [addr_add]; exact h1 j _ (List.getElem?_eq_getElem (by omega)))
        refine ⟨.agg ((List.range i.size).map us).toArray, by simp [Instr.loadAt, Instr.sureAddr, loadVar, r1, hagg, r2, hl], .agg _ _ (by simp; omega) fun j c hj => ?_⟩
        rw [List.getElem?_take] at hj
        split at hj
        · rename_i hlt
          have : ((List.range i.size).map us).toArray.getD j Go.undef = us j := by simp [hlt]
          rw [this]; exact h2 j c hj
        · cases hj
      · cases h
    · rename_i hagg
      split at h
      · cases h
      · rename_i c tl _
        cases h
        refine ⟨us 0, ?_, h2 0 r rfl⟩
        have := h1 0 r rfl
        simp [Instr.loadAt, Instr.sureAddr, loadVar, r1, hagg]
        rw [show o + 0 = o from rfl] at this
        simp [load, Sem.run, this]
      · cases h
  · cases h
end

def isBool (cx : Cx) (t : TypeId) : Bool := match cx.ty t with | some ⟨_, _, .bool, _⟩ => true | _ => false
def binBool (op : BinOp) (a b : Bool) : Option D :=
  match op with
  | .eql => some (.bool (a == b))
  | .neq => some (.bool (!(a == b)))
  | _ => none
def isSl (cx : Cx) (t : TypeId) : Bool := match cx.ty t with | some ⟨_, _, .slice _, _⟩ => true | _ => false
/-- Is a slice nil? One without elements may be. -/
def nilT (cx : Cx) (op : BinOp) (t : TypeId) (rows : List (List D)) : Option AV :=
  match op, isSl cx t with
  | .eql, true => some (.maybe rows.isEmpty)
  | _, _ => none
/-- Are the cells equal? -/
def eqCells : List K → List AV → List AV → Option Bool
  | [], [], [] => some true
  | .str :: ks, .d (.str a) :: cs, .d (.str b) :: ds => (match eqCells ks cs ds with | some r => some ((a == b) && r) | none => none)
  | .bool :: ks, .d (.bool a) :: cs, .d (.bool b) :: ds => (match eqCells ks cs ds with | some r => some ((a == b) && r) | none => none)
  | .int _ :: ks, .d (.int k a) :: cs, .d (.int k' b) :: ds => (match decide (k = k'), eqCells ks cs ds with | true, some r => some ((a == b) && r) | _, _ => none)
  | _, _, _ => none
def binS (op : BinOp) (b : Bool) : Option AV :=
  match op with
  | .eql => some (.d (.bool b))
  | .neq => some (.d (.bool (!b)))
  | _ => none
theorem part_one {P : Program} {w : World} {t : TypeId} {d : TypeDesc} (h : P.underlying t = some d) (hk : (kindOf d).isAgg = false) {xs : Array Value} {o : Nat} {v : Value} (hx : xs[o]? = some v) : (part t xs o).run P w = .ok v w := by
  cases d <;> simp [kindOf, K.isAgg] at hk <;> simp [part, isAgg, run_underlying h, hx]
theorem eq_fields {P : Program} {w : World} {O L : Nat → Prop} {σ : Nat → Value} {n : Nat} {xs ys : Array Value} : ∀ (l : List Field) (ks : List K) (i : Nat) (cs ds : List AV) (b : Bool), l.length = ks.length →
    (∀ (j : Nat) f k, l[j]? = some f → ks[j]? = some k → f.offset = i + j ∧ f.name ≠ "_" ∧ ∃ desc, P.underlying f.type = some desc ∧ kindOf desc = k) → eqCells ks cs ds = some b →
    (∀ (j : Nat) c, cs[j]? = some c → ∃ u, xs[i + j]? = some u ∧ RepA w O L σ c u) → (∀ (j : Nat) c, ds[j]? = some c → ∃ u, ys[i + j]? = some u ∧ RepA w O L σ c u) →
    (Op.eqFields (n + 1) xs ys l).run P w = .ok b w
  | [], [], i, cs, ds, b, _, _, he, _, _ => by
    cases cs <;> cases ds <;> simp [eqCells] at he
    subst he; simp [Op.eqFields]
  | [], _ :: _, _, _, _, _, hl, _, _, _, _ => by simp at hl
  | _ :: _, [], _, _, _, _, hl, _, _, _, _ => by simp at hl
  | f :: l, k :: ks, i, cs, ds, b, hl, hf, he, hx, hy => by
    obtain ⟨ho, hn, desc, hd, hk⟩ := hf 0 f k rfl rfl
    have step : ∀ {c e : AV} {cs' ds' : List AV} {r q : Bool} , cs = c :: cs' → ds = e :: ds' → (kindOf desc).isAgg = false → (∀ u v, RepA w O L σ c u → RepA w O L σ e v → (Op.equalIn (n + 1) f.type u v).run P w = .ok q w) →
        eqCells ks cs' ds' = some r → b = (q && r) → (Op.eqFields (n + 1) xs ys (f :: l)).run P w = .ok b w := by
      rintro c e cs' ds' r q rfl rfl hag heq hr rfl
      obtain ⟨u, hu, ru⟩ := hx 0 c rfl
      obtain ⟨v, hv, rv⟩ := hy 0 e rfl
      have ih := eq_fields (n := n) (xs := xs) (ys := ys) l ks (i + 1) cs' ds' r (by simpa using hl) (fun j f' k' h1 h2 => by
        obtain ⟨a1, a2⟩ := hf (j + 1) f' k' h1 h2; exact ⟨by omega, a2⟩) hr (fun j c h => by
        obtain ⟨u, hu, ru⟩ := hx (j + 1) c h; exact ⟨u, by rw [← hu]; congr 1; omega, ru⟩) (fun j c h => by
        obtain ⟨u, hu, ru⟩ := hy (j + 1) c h; exact ⟨u, by rw [← hu]; congr 1; omega, ru⟩)
      simp only [Op.eqFields, if_pos hn, Sem.run_bind]
      rw [part_one (w := w) hd hag (xs := xs) (o := f.offset) (v := u) (by rw [ho]; exact hu)]
      simp only [Result.andThen_ok]
      rw [part_one (w := w) hd hag (xs := ys) (o := f.offset) (v := v) (by rw [ho]; exact hv)]
      simp only [Result.andThen_ok]
      rw [heq u v ru rv]
      cases q
      · simp [Result.andThen_ok]
      · simpa [Result.andThen_ok] using ih
    unfold eqCells at he
    split at he <;> first | (cases he; done) | skip
    · rename_i hks; cases hks
    · rename_i ks' a cs' b' ds' hks
      cases hks
      split at he
      · rename_i r hr
        refine step rfl rfl (by rw [hk]; rfl) (fun u v hu hv => ?_) hr (Option.some.inj he).symm
        obtain ⟨p, rfl, rfl⟩ := hu.str
        obtain ⟨q, rfl, rfl⟩ := hv.str
        rw [run_equalIn_string w n f.type p q (by rw [hd, kindOf_str hk])]
        rw [ByteArray.toList_eq, ByteArray.toList_eq]
      · cases he
    · rename_i ks' a cs' b' ds' hks
      cases hks
      split at he
      · rename_i r hr
        refine step rfl rfl (by rw [hk]; rfl) (fun u v hu hv => ?_) hr (Option.some.inj he).symm
        obtain rfl := hu.bool
        obtain rfl := hv.bool
        exact run_equalIn_bool' w n f.type a b' (by rw [hd, kindOf_bool hk])
      · cases he
    · rename_i ks' _ k1 a cs' k2 b' ds' hks
      cases hks
      split at he
      · rename_i r hk12 hr
        have hkk := of_decide_eq_true hk12
        subst hkk
        refine step rfl rfl (by rw [hk]; rfl) (fun u v hu hv => ?_) hr (Option.some.inj he).symm
        obtain rfl := hu.int
        obtain rfl := hv.int
        exact run_equalIn_int w n f.type k1 _ a b' (by rw [hd, kindOf_int hk])
      · cases he
/-- Operations of two operands; bools can be compared, and structs of plain cells. -/
def binT (cx : Cx) (op : BinOp) (t : TypeId) (x y : AV) : Option AV :=
  match x, y with
  | .d (.bool a), .d (.bool b) => (match isBool cx t with | true => (match binBool op a b with | some r => some (.d r) | none => none) | false => none)
  | .d (.slice _ rows), .nil _ => nilT cx op t rows
  | .agg cs, .agg ds => (match cx.eqT t with | some ks => (match eqCells ks cs ds with | some b => binS op b | none => none) | none => none)
  | x, y => binA op x y
theorem isBool_ok {cx : Cx} (hT : TyOk cx) {t : TypeId} (h : isBool cx t = true) : cx.P.underlying t = some .bool := by
  unfold isBool at h
  split at h
  · rename_i hy
    obtain ⟨info, desc, z, h1, h2, h3, h4⟩ := hT _ _ hy
    rw [h2, kindOf_bool h3]
  · cases h
theorem isSl_ok {cx : Cx} (hT : TyOk cx) {t : TypeId} (h : isSl cx t = true) : ∃ e, cx.P.underlying t = some (.slice e) := by
  unfold isSl at h
  split at h
  · rename_i hy
    obtain ⟨info, desc, z, h1, h2, h3, h4⟩ := hT _ _ hy
    exact ⟨_, by rw [h2, kindOf_slice h3]⟩
  · cases h
theorem binT_run {w : World} {O L : Nat → Prop} {σ : Nat → Value} {cx : Cx} (hT : TyOk cx) {op : BinOp} {t : TypeId} {x y : AV} {r : AV} (h : binT cx op t x y = some r) {u v : Value} (hx : RepA w O L σ x u) (hy : RepA w O L σ y v) (ox oy : Operand) :
    ∃ z, (do eqGuard op t ox oy u v; binOp op t u v : Sem Value).run cx.P w = .ok z w ∧ RepA w O L σ r z := by
  unfold binT at h
  split at h
  · rename_i a b
    obtain rfl := hx.bool
    obtain rfl := hy.bool
    cases hb : isBool cx t with
    | false => rw [hb] at h; cases h
    | true =>
      rw [hb] at h
      have hu := isBool_ok hT hb
      cases op <;> simp only [binBool] at h
      all_goals first
        | (cases h; done)
        | (cases h; refine ⟨.bool _, ?_, .mkBool _⟩; simp only [eqGuard, Bool.not_true, Bool.false_eq_true, if_false]; first | exact run_eql_bool w t a b hu | exact run_neq_bool w t a b hu | (simp; first | exact run_eql_bool w t a b hu | exact run_neq_bool w t a b hu))
  · rename_i sz rows z
    unfold nilT at h
    split at h
    · rename_i hsl
      cases h
      obtain ⟨e, hu⟩ := isSl_ok hT hsl
      cases hy
      cases hx with | d _ _ hx => cases hx with
      | empty _ a cap => exact ⟨.bool a.isNone, by simp [eqGuard, Go.Lib.run_eql_slice_nil w t e a 0 cap 0 0 hu], .maybe _ _ fun _ => rfl⟩
      | slice _ _ B off n cap us hn hO hB hc hl g1 g2 => exact ⟨.bool false, by simp [eqGuard, Go.Lib.run_eql_slice_nil w t e (some ⟨B, off, none⟩) n cap 0 0 hu], .maybe _ _ fun e => by cases e⟩
    · cases h
  · rename_i cs ds
    split at h
    · rename_i ks hks
      split at h
      · rename_i b hb
        obtain ⟨fs, f1, f2, f3, f4, f5⟩ := cx.eqOk t ks hks
        cases hx with | agg _ xs hlx hx =>
        cases hy with | agg _ ys hly hy =>
        have cell : ∀ {cs : List AV} {xs : Array Value}, xs.size = cs.length → (∀ j c, cs[j]? = some c → RepA w O L σ c (xs.getD j Go.undef)) → ∀ (j : Nat) c, cs[j]? = some c → ∃ u, xs[0 + j]? = some u ∧ RepA w O L σ c u := fun {cs xs} hl h j c hj => by
          have hlt : j < xs.size := by rw [hl]; exact (List.getElem?_eq_some_iff.1 hj).1
          refine ⟨xs[j], by rw [Nat.zero_add]; exact Array.getElem?_eq_getElem hlt, ?_⟩
          have := h j c hj
          simpa [Array.getD_eq_getD_getElem?, hlt] using this
        have hrun := eq_fields (n := 9998) fs.toList ks 0 cs ds b f4 (fun j f k h1 h2 => by rw [Nat.zero_add]; exact f5 j f k h1 h2) hb (cell hlx hx) (cell hly hy)
        have hfo : cx.P.fieldsOf t = fs := by unfold Program.fieldsOf; rw [f1]
        have heq : (Op.equalIn 10000 t (.agg xs) (.agg ys)).run cx.P w = .ok b w := by
          rw [run_equalIn_struct w 9999 t xs ys (by rw [hfo]; exact f1) f2, hfo]; exact hrun
        unfold binS at h
        split at h
        · cases h
          refine ⟨.bool b, ?_, .mkBool _⟩
          rw [Sem.run_bind, run_eqGuard_agg w _ t ox oy xs ys f3]
          simp only [Result.andThen_ok]
          rw [run_eql_struct, heq]; rfl
        · cases h
          refine ⟨.bool (!b), ?_, .mkBool _⟩
          rw [Sem.run_bind, run_eqGuard_agg w _ t ox oy xs ys f3]
          simp only [Result.andThen_ok]
          rw [run_neq_struct, heq]; rfl
        · cases h
      · cases h
    · cases h
  · exact binA_run h hx hy t ox oy
end NQ

/-
  Maps whose keys are structs of plain cells.
-/
set_option linter.unusedSimpArgs false
set_option linter.unusedVariables false
namespace NQ
open Go Go.RowKit

theorem FlatV.rep {w : World} {O : Nat → Prop} {d : D} {v : Value} (h : FlatV d v) : Rep w O d v := by
  cases d <;> simp only [FlatV] at h
  · subst h; exact .int _ _
  · subst h; exact .bool _
  · obtain ⟨b, rfl, hb⟩ := h; exact .str _ b hb
theorem rep_flatV {w : World} {O : Nat → Prop} {d : D} {v : Value} (h : Rep w O d v) (hf : d.flat1 = true) : FlatV d v := by
  cases h <;> first | rfl | (cases hf; done) | (exact ⟨_, rfl, by assumption⟩)
/-- Do the cells have these kinds? -/
def fitK : List K → List D → Bool
  | [], [] => true
  | .str :: ks, .str _ :: cs => fitK ks cs
  | .bool :: ks, .bool _ :: cs => fitK ks cs
  | .int k :: ks, .int k' _ :: cs => decide (k = k') && fitK ks cs
  | _, _ => false
theorem fitK_flat : ∀ {ks : List K} {cs : List D}, fitK ks cs = true → cs.length = ks.length ∧ ∀ d ∈ cs, d.flat1 = true
  | [], [], _ => ⟨rfl, fun d h => by cases h⟩
  | [], _ :: _, h => by cases h
  | k :: ks, [], h => by cases k <;> simp [fitK] at h
  | k :: ks, c :: cs, h => by
    have key : fitK ks cs = true → c.flat1 = true → (c :: cs).length = (k :: ks).length ∧ ∀ d ∈ c :: cs, d.flat1 = true := fun h hc => by
      obtain ⟨h1, h2⟩ := fitK_flat h
      refine ⟨by simp [h1], fun d hd => ?_⟩
      rcases List.mem_cons.1 hd with rfl | hd
      · exact hc
      · exact h2 d hd
    cases k <;> cases c <;> simp [fitK] at h
    · exact key h.2 rfl
    · exact key h rfl
    · exact key h rfl
/-- What is found under a key. -/
def kmFind (ks : List K) (kc : List D) : List (List D × D) → Option (Option D)
  | [] => some none
  | (k, v) :: t => (match eqCells ks (kc.map .d) (k.map .d) with | some true => some (some v) | some false => kmFind ks kc t | none => none)

section
variable {P : Program} {w : World}
def ckFields (em : Bool) (n : Nat) (xs : Array Value) : List Field → Sem Unit
  | [] => pure ()
  | f :: fs => if f.name ≠ "_" then (do let a ← part f.type xs f.offset; Instr.checkKey em n f.type a; ckFields em n xs fs) else ckFields em n xs fs
theorem run_checkKey_struct (em : Bool) (n : Nat) {t : TypeId} {fs : Array Field} (xs : Array Value) (ht : P.underlying t = some (.struct fs)) : (Instr.checkKey em (n + 1) t (.agg xs)).run P w = (ckFields em n xs fs.toList).run P w := by
  rw [Instr.checkKey]
  simp only [Sem.run_bind, run_underlying ht, Result.andThen_ok]
  rw [← Array.forIn_toList]
  generalize fs.toList = l
  clear ht
  induction l generalizing w with
  | nil => simp [ckFields]
  | cons f l ih =>
    simp only [List.forIn_cons, ckFields, Sem.run_bind, Sem.run_ite]
    split
    · generalize (part f.type xs f.offset).run P w = r1
      cases r1 with
      | ok a w1 =>
        simp only [Result.andThen_ok]
        generalize (Instr.checkKey em n f.type a).run P w1 = r2
        cases r2 with
        | ok b w2 =>
          simp only [Result.andThen_ok, Sem.run_pure]
          exact ih
        | halt x w2 => simp [Result.andThen]
      | halt x w1 => simp [Result.andThen]
    · simp only [Sem.run_pure, Result.andThen_ok]
      exact ih
theorem checkKey_fields {em : Bool} {n : Nat} {xs : Array Value} : ∀ (l : List Field) (ks : List K) (i : Nat) (cs : List D), l.length = ks.length →
    (∀ (j : Nat) f k, l[j]? = some f → ks[j]? = some k → f.offset = i + j ∧ f.name ≠ "_" ∧ ∃ desc, P.underlying f.type = some desc ∧ kindOf desc = k) → fitK ks cs = true →
    (∀ (j : Nat) c, cs[j]? = some c → ∃ u, xs[i + j]? = some u ∧ FlatV c u) → (ckFields em (n + 1) xs l).run P w = .ok () w
  | [], _, _, _, _, _, _, _ => by simp [ckFields]
  | _ :: _, [], _, _, hl, _, _, _ => by simp at hl
  | f :: l, k :: ks, i, [], _, _, he, _ => by cases k <;> simp [fitK] at he
  | f :: l, k :: ks, i, c :: cs, hl, hf, he, hx => by
    obtain ⟨ho, hn, desc, hd, hk⟩ := hf 0 f k rfl rfl
    obtain ⟨u, hu, ru⟩ := hx 0 c rfl
    have step : (kindOf desc).isAgg = false → (Instr.checkKey em (n + 1) f.type u).run P w = .ok () w → fitK ks cs = true → (ckFields em (n + 1) xs (f :: l)).run P w = .ok () w := fun hag hc hfit => by
      have ih := checkKey_fields (em := em) (n := n) (xs := xs) l ks (i + 1) cs (by simpa using hl) (fun j f' k' h1 h2 => by
        obtain ⟨a1, a2⟩ := hf (j + 1) f' k' h1 h2; exact ⟨by omega, a2⟩) hfit (fun j c h => by
        obtain ⟨u, hu, ru⟩ := hx (j + 1) c h; exact ⟨u, by rw [← hu]; congr 1; omega, ru⟩)
      have hp := part_one (w := w) hd hag (xs := xs) (o := f.offset) (v := u) (by rw [ho]; exact hu)
      simp only [ckFields, if_pos hn, Sem.run_bind, hp, Result.andThen_ok, hc]
      exact ih
    cases k <;> cases c <;> simp [fitK] at he
    · rename_i k1 k2 m
      refine step (by rw [hk]; rfl) ?_ he.2
      have hd' := hd; rw [kindOf_int hk] at hd'
      obtain rfl := ru
      simp [Instr.checkKey, run_underlying hd']
    · refine step (by rw [hk]; rfl) ?_ he
      have hd' := hd; rw [kindOf_bool hk] at hd'
      obtain rfl := ru
      simp [Instr.checkKey, run_underlying hd']
    · refine step (by rw [hk]; rfl) ?_ he
      have hd' := hd; rw [kindOf_str hk] at hd'
      obtain ⟨b, rfl, _⟩ := ru
      simp [Instr.checkKey, run_underlying hd']
theorem keyV_cell {cs : List D} {vs : Array Value} (hl : vs.size = cs.length) (h : ∀ (j : Nat) d, cs[j]? = some d → FlatV d (vs.getD j Go.undef)) (j : Nat) (c : D) (hj : cs[j]? = some c) : ∃ u, vs[0 + j]? = some u ∧ FlatV c u := by
  have hlt : j < vs.size := by rw [hl]; exact (List.getElem?_eq_some_iff.1 hj).1
  refine ⟨vs[j], by rw [Nat.zero_add]; exact Array.getElem?_eq_getElem hlt, ?_⟩
  have := h j c hj
  simpa [Array.getD_eq_getD_getElem?, hlt] using this
theorem checkKey_key {kt : TypeId} {ks : List K} (he : EqTy P kt ks) {kc : List D} (hfit : fitK ks kc = true) {u : Value} (hu : KeyV kc u) (em : Bool) : (Instr.checkKey em 10000 kt u).run P w = .ok () w := by
  obtain ⟨fs, f1, f2, f3, f4, f5⟩ := he
  obtain ⟨vs, rfl, hl, hv⟩ := hu
  rw [run_checkKey_struct em 9999 vs f1]
  exact checkKey_fields (n := 9998) fs.toList ks 0 kc f4 (fun j f k h1 h2 => by rw [Nat.zero_add]; exact f5 j f k h1 h2) hfit (keyV_cell hl hv)
theorem equal_key {kt : TypeId} {ks : List K} (he : EqTy P kt ks) {kc k : List D} {u v : Value} (hu : KeyV kc u) (hv : KeyV k v) {b : Bool} (hb : eqCells ks (kc.map .d) (k.map .d) = some b) : (Op.equal kt u v).run P w = .ok b w := by
  obtain ⟨fs, f1, f2, f3, f4, f5⟩ := he
  obtain ⟨xs, rfl, hlx, hx⟩ := hu
  obtain ⟨ys, rfl, hly, hy⟩ := hv
  have cell : ∀ {cs : List D} {xs : Array Value}, xs.size = cs.length → (∀ (j : Nat) d, cs[j]? = some d → FlatV d (xs.getD j Go.undef)) → ∀ (j : Nat) c, (cs.map AV.d)[j]? = some c → ∃ u, xs[0 + j]? = some u ∧ RepA w (fun _ => False) (fun _ => False) (fun _ => .nilFunc) c u := fun {cs xs} hl h j c hj => by
    rw [List.getElem?_map] at hj
    cases hc : cs[j]? with
    | none => rw [hc] at hj; cases hj
    | some d =>
      rw [hc] at hj; cases hj
      obtain ⟨u, hu, hf⟩ := keyV_cell hl h j d hc
      exact ⟨u, hu, .d _ _ hf.rep⟩
  have hrun := eq_fields (P := P) (w := w) (n := 9998) fs.toList ks 0 _ _ b f4 (fun j f k h1 h2 => by rw [Nat.zero_add]; exact f5 j f k h1 h2) hb (cell hlx hx) (cell hly hy)
  have hfo : P.fieldsOf kt = fs := by unfold Program.fieldsOf; rw [f1]
  show (Op.equalIn 10000 kt (.agg xs) (.agg ys)).run P w = .ok b w
  rw [run_equalIn_struct w 9999 kt xs ys (by rw [hfo]; exact f1) f2, hfo]; exact hrun
theorem findAsking_key {kt : TypeId} {ks : List K} (he : EqTy P kt ks) {kc : List D} {u : Value} (hu : KeyV kc u) : ∀ (m : List (List D × D)) (es : List MapEntry) (i : Nat) (r : Option D), es.length = m.length →
    (∀ (j : Nat) k v, m[j]? = some (k, v) → ∃ e : MapEntry, es[j]? = some e ∧ KeyV k e.key ∧ FlatV v e.val) → kmFind ks kc m = some r →
    (r = none ∧ (Instr.findAsking kt u es i).run P w = .ok none w) ∨ ∃ j v e, r = some v ∧ (Instr.findAsking kt u es i).run P w = .ok (some (j, e)) w ∧ FlatV v e
  | [], es, i, r, hl, _, hf => by
    obtain rfl : es = [] := List.eq_nil_of_length_eq_zero hl
    cases hf
    exact .inl ⟨rfl, by simp [Instr.findAsking]⟩
  | (k, v) :: m, [], i, r, hl, _, _ => by simp at hl
  | (k, v) :: m, e :: es, i, r, hl, h, hf => by
    obtain ⟨e', he', hk, hv⟩ := h 0 k v rfl
    obtain rfl : e = e' := by simpa using he'
    simp only [kmFind] at hf
    split at hf
    · rename_i hb
      cases hf
      exact .inr ⟨i, v, e.val, rfl, by simp [Instr.findAsking, equal_key (w := w) he hu hk hb], hv⟩
    · rename_i hb
      have hrun : (Instr.findAsking kt u (e :: es) i).run P w = (Instr.findAsking kt u es (i + 1)).run P w := by simp [Instr.findAsking, equal_key (w := w) he hu hk hb]
      rw [hrun]
      exact findAsking_key he hu m es (i + 1) r (by simpa using hl) (fun j k v hj => h (j + 1) k v hj) hf
    · cases hf
theorem findKey_key {kt : TypeId} {ks : List K} (he : EqTy P kt ks) (u : Value) (es : List MapEntry) : (Instr.findKey kt u es).run P w = (Instr.findAsking kt u es).run P w := by
  obtain ⟨fs, f1, _⟩ := he
  cases es with
  | nil => simp [Instr.findKey, run_underlying f1, Instr.findNow, Instr.findAsking]
  | cons e es => simp [Instr.findKey, run_underlying f1, Instr.findNow, Instr.sameNow]
end
end NQ

/-
  Operations on plain data: parts, indexes, cuts, lengths, conversions.
-/
set_option linter.unusedSimpArgs false
set_option linter.unusedVariables false
namespace NQ
open Go Go.RowKit

section
variable {P : Program} {w : World} {O L : Nat → Prop} {σ : Nat → Value}

def fieldA (cx : Cx) (t : TypeId) (x : AV) (f : Nat) : Option AV :=
  match x, cx.ty t with
  | .agg cs, some ⟨_, _, .struct fs, _⟩ => (match fs[f]? with | some (off, ft) => takeA cx ft (cs.drop off) | none => none)
  | _, _ => none

theorem part_run {cx : Cx} (hT : TyOk cx) {t : TypeId} {cs : List AV} {vs : Array Value} {off : Nat} {r : AV} (h : takeA cx t (cs.drop off) = some r) (hl : vs.size = cs.length)
    (h2 : ∀ j c, cs[j]? = some c → RepA w O L σ c (vs.getD j Go.undef)) : ∃ z, (part t vs off).run cx.P w = .ok z w ∧ RepA w O L σ r z := by
  unfold takeA at h
  split at h
  · rename_i i hi
    obtain ⟨r1, r2⟩ := isAgg_run (w := w) hT hi
    split at h
    · rename_i hagg
      split at h
      · rename_i hle
        cases h
        have hle : i.size ≤ cs.length - off := by simpa using Nat.le_of_ble_eq_true hle
        refine ⟨.agg (vs.extract off (off + i.size)), by simp [part, r1, hagg, r2], .agg _ _ (by simp; omega) fun j c hj => ?_⟩
        rw [List.getElem?_take] at hj
        split at hj
        · rename_i hlt
          rw [List.getElem?_drop] at hj
          have hj' : off + j < vs.size := by have := (List.getElem?_eq_some_iff.1 hj).1; omega
          have : (vs.extract off (off + i.size)).getD j Go.undef = vs.getD (off + j) Go.undef := by
            simp [Array.getElem?_extract, hlt]
            rw [if_pos (by omega)]
          rw [this]; exact h2 _ c hj
        · cases hj
      · cases h
    · rename_i hagg
      split at h
      · cases h
      · rename_i c tl hd hcs
        cases h
        have hg : cs[off]? = some r := by
          have := congrArg (fun l => l[0]?) hcs
          simpa [List.getElem?_drop] using this
        have hlt : off < vs.size := by have := (List.getElem?_eq_some_iff.1 hg).1; omega
        refine ⟨vs[off], ?_, ?_⟩
        · simp [part, r1, hagg, hlt]
        · have := h2 off r hg
          simpa [hlt] using this
      · cases h
  · cases h

theorem fieldA_run {cx : Cx} (hT : TyOk cx) {t : TypeId} {x r : AV} {f : Nat} (h : fieldA cx t x f = some r) {u : Value} (hx : RepA w O L σ x u) :
    ∃ z, (Instr.field t u f).run cx.P w = .ok z w ∧ RepA w O L σ r z := by
  unfold fieldA at h
  split at h
  · rename_i cs fs _ hs
    split at h
    · rename_i off ft hf
      obtain ⟨info, desc, z, h1, h2, h3, _⟩ := hT t _ hs
      obtain ⟨g, rfl, rfl⟩ := kindOf_struct h3
      rw [List.getElem?_map] at hf
      cases hg : g.toList[f]? with
      | none => rw [hg] at hf; cases hf
      | some fld =>
        rw [hg] at hf; cases hf
        have hg' : g[f]? = some fld := by rw [← Array.getElem?_toList]; exact hg
        cases hx with | agg _ vs hl hh =>
          obtain ⟨z, hz, hr⟩ := part_run hT h hl hh
          exact ⟨z, by simp [Instr.field, run_underlying h2, hg', asAgg, hz], hr⟩
    · cases h
  · cases h

def extractA (x : AV) (i : Nat) : Option AV :=
  match x with
  | .tuple vs => (match vs[i]? with | some .undef => none | some v => some v | none => none)
  | _ => none
theorem extractA_run {x r : AV} {i : Nat} (h : extractA x i = some r) {u : Value} (hx : RepA w O L σ x u) : ∃ z, (Instr.extract u i).run P w = .ok z w ∧ RepA w O L σ r z := by
  unfold extractA at h
  split at h
  · rename_i vs
    cases hx with | tuple _ us hl hh =>
      have hi : vs[i]? = some r := by
        split at h
        · cases h
        · rename_i v _ hv; cases h; exact hv
        · cases h
      have hlt : i < us.size := by have := (List.getElem?_eq_some_iff.1 hi).1; omega
      refine ⟨us[i], by simp [Instr.extract, hlt], ?_⟩
      have := hh i r hi
      simpa [hlt] using this
  · cases h

def convA (cx : Cx) (src dst : TypeId) (x : AV) : Option AV :=
  match cx.ty src, cx.ty dst, x with
  | some _, some ⟨_, _, .int k, _⟩, .d (.int _ n) => some (.d (.int k (k.wrap n)))
  | some _, some ⟨_, _, .str, _⟩, .d (.str s) => some (.d (.str s))
  | _, _, _ => none
theorem convA_run {cx : Cx} (hT : TyOk cx) {src dst : TypeId} {x r : AV} (h : convA cx src dst x = some r) {u : Value} (hx : RepA w O L σ x u) :
    ∃ z, (convert src dst u).run cx.P w = .ok z w ∧ RepA w O L σ r z := by
  unfold convA at h
  split at h
  · rename_i hs hd
    obtain ⟨_, _, _, _, s2, _⟩ := hT _ _ hs
    obtain ⟨_, _, _, _, d2, d3, _⟩ := hT _ _ hd
    obtain rfl := kindOf_int d3
    obtain rfl := hx.int
    cases h
    exact ⟨_, by simp [convert, run_underlying s2, run_underlying d2, Conv.intToInt], .mkInt _ _⟩
  · rename_i hs hd
    obtain ⟨_, _, _, _, s2, _⟩ := hT _ _ hs
    obtain ⟨_, _, _, _, d2, d3, _⟩ := hT _ _ hd
    obtain rfl := kindOf_str d3
    obtain ⟨b, rfl, rfl⟩ := hx.str
    cases h
    exact ⟨_, by simp [convert, run_underlying s2, run_underlying d2], .mkStr _⟩
  · cases h

theorem RepA.dslice {sz : Nat} {rows : List (List D)} {v : Value} (h : RepA w O L σ (.d (.slice sz rows)) v) : ∃ a cap, v = .slice a rows.length cap ∧ rows.length ≤ cap ∧
    ∀ (i : Nat) r, rows[i]? = some r → ∃ B off, a = some ⟨B, off, none⟩ ∧ RepA w O L σ (.d (.ptr r)) (.pointer (some ⟨B, off + i * sz, none⟩)) := by
  cases h with | d _ _ h => cases h with
  | empty => exact ⟨_, _, rfl, Nat.zero_le _, fun i r h => by simp at h⟩
  | slice _ _ B off n cap us hn hO hB hc hl h1 h2 =>
    subst hn
    refine ⟨_, cap, rfl, hc, fun i r hi => ⟨B, off, rfl, .d _ _ (.ptr r B _ (us i) hO hB (hl r (List.mem_of_getElem? hi)).2 (fun j d hj => h1 i r j d hi hj) (fun j d hj => h2 i r j d hi hj))⟩⟩

/-- Element i of a slice: its address. -/
theorem indexAddr_dslice {cx : Cx} (hT : TyOk cx) {t e : TypeId} {ti ei : TI} (ht : cx.ty t = some ti) (hk : ti.kind = .slice e) (he : cx.ty e = some ei) {rows : List (List D)} {u : Value} (hx : RepA w O L σ (.d (.slice ei.size rows)) u)
    {k : IntKind} {i : Int} (h0 : 0 ≤ i) {row : List D} (hrow : rows[i.toNat]? = some row) : ∃ z, (Instr.indexAt t u (.int k i)).run cx.P w = .ok z w ∧ RepA w O L σ (.d (.ptr row)) z := by
  obtain ⟨a, cap, rfl, _, hh⟩ := hx.dslice
  obtain ⟨B, off, rfl, hr⟩ := hh _ _ hrow
  obtain ⟨_, _, _, _, t2, t3, _⟩ := hT _ _ ht
  rw [hk] at t3
  obtain rfl := kindOf_slice t3
  obtain ⟨_, r2⟩ := isAgg_run (w := w) hT he
  have hlt : i < rows.length := by have := (List.getElem?_eq_some_iff.1 hrow).1; omega
  exact ⟨_, by simp [Instr.indexAt, asIntOf, run_underlying t2, h0, hlt, r2, addr_add], hr⟩

theorem indexAddr_own {cx : Cx} (hT : TyOk cx) {t e : TypeId} {ti ei : TI} (ht : cx.ty t = some ti) (hk : ti.kind = .slice e) (he : cx.ty e = some ei) {s n : Nat} {F : Nat → Prop} {xs : List Value} {u : Value} (hx : RepA w O L σ (.own s) u)
    {te : TypeId} (hb : w.ownsRow 0 te ei.size (σ s) n xs)
    {k : IntKind} {i : Int} (h0 : 0 ≤ i) (hi : i.toNat < n) : ∃ z, (Instr.indexAt t u (.int k i)).run cx.P w = .ok z w ∧ RepA w O L σ (.rptr s ei.size i.toNat 0) z := by
  cases hx with | own _ hL =>
    obtain ⟨_, _, _, _, t2, t3, _⟩ := hT _ _ ht
    rw [hk] at t3
    obtain rfl := kindOf_slice t3
    obtain ⟨_, r2⟩ := isAgg_run (w := w) hT he
    rcases hb.2 with ⟨_, rfl⟩ | ⟨g, cap, cur, e1, _⟩
    · omega
    · have hlt : i < n := by omega
      refine ⟨.pointer (some ⟨g, i.toNat * ei.size + 0, none⟩), ?_, .rptr s _ _ _ g n cap hL e1⟩
      rw [e1]
      simp [Instr.indexAt, asIntOf, run_underlying t2, h0, hlt, r2, addr_add]

theorem indexAddr_array {cx : Cx} (hT : TyOk cx) {t e : TypeId} {ti ei : TI} (ht : cx.ty t = some ti) {n : Nat} (hk : ti.kind = .array n e) (he : cx.ty e = some ei) {x r : AV} {u : Value} (hx : RepA w O L σ x u)
    {k : IntKind} {i : Int} (h0 : 0 ≤ i) (hi : i < n) (ha : addA x (i.toNat * ei.size) = some r) : ∃ z, (Instr.indexAt t u (.int k i)).run cx.P w = .ok z w ∧ RepA w O L σ r z := by
  obtain ⟨_, _, _, _, t2, t3, _⟩ := hT _ _ ht
  rw [hk] at t3
  obtain rfl := kindOf_array t3
  obtain ⟨_, r2⟩ := isAgg_run (w := w) hT he
  obtain ⟨b, o, rfl, hr⟩ := addA_run ha hx
  exact ⟨_, by simp [Instr.indexAt, asIntOf, run_underlying t2, h0, hi, r2, addr_add, Instr.sureAddr], hr⟩

theorem index_str {cx : Cx} (hT : TyOk cx) {t : TypeId} {ti : TI} (ht : cx.ty t = some ti) (hk : ti.kind = .str) {s : List UInt8} {u : Value} (hx : RepA w O L σ (.d (.str s)) u)
    {k : IntKind} {i : Int} (h0 : 0 ≤ i) {c : UInt8} (hc : s[i.toNat]? = some c) : ∃ z, (Instr.index t u (.int k i)).run cx.P w = .ok z w ∧ RepA w O L σ (.d (.int .u8 c.toNat)) z := by
  obtain ⟨_, _, _, _, t2, t3, _⟩ := hT _ _ ht
  rw [hk] at t3
  obtain rfl := kindOf_str t3
  obtain ⟨b, rfl, rfl⟩ := hx.str
  have hb : b[i.toNat]? = some c := by
    obtain ⟨h, e⟩ := List.getElem?_eq_some_iff.1 hc
    have h' : i.toNat < b.size := by simpa using h
    rw [getElem?_pos b i.toNat h', ← e]; rfl
  exact ⟨_, by simp [Instr.index, asIntOf, run_underlying t2, h0, hb], .mkInt _ _⟩
end
end NQ

/-
  Operations on plain data: cuts, lengths, structs put together, rows.
-/
set_option linter.unusedSimpArgs false
set_option linter.unusedVariables false
namespace NQ
open Go Go.RowKit

section
variable {P : Program} {w : World} {O L : Nat → Prop} {σ : Nat → Value}

/-- A bound of a cut: a number, or what stands for none. -/
def bnd (dflt : Nat) : Option AV → Option Int
  | none => some dflt
  | some (.d (.int _ n)) => some n
  | _ => none

theorem bnd_run {o : Option AV} {v : Option Value} (ho : ∀ x, o = some x → ∃ u, v = some u ∧ RepA w O L σ x u) (hn : o = none → v = none) {dflt : Nat} {i : Int} (h : bnd dflt o = some i) :
    (v = none ∧ i = dflt) ∨ ∃ k, v = some (.int k i) := by
  unfold bnd at h
  split at h
  · cases h; exact .inl ⟨hn rfl, rfl⟩
  · rename_i k n
    cases h
    obtain ⟨u, rfl, hu⟩ := ho _ rfl
    exact .inr ⟨k, by rw [hu.int]⟩
  · cases h

theorem sliceBounds_run (b : Bool) (len cap : Nat) (hc : len ≤ cap) {lo hi : Option Value} {l h : Int} (hl : (lo = none ∧ l = (0 : Nat)) ∨ ∃ k, lo = some (.int k l)) (hh : (hi = none ∧ h = len) ∨ ∃ k, hi = some (.int k h))
    (h0 : 0 ≤ l) (h1 : l ≤ h) (h2 : h ≤ len) : (Instr.sliceBounds b len cap lo hi none).run P w = .ok (l.toNat, h.toNat, cap) w := by
  have h3 : h ≤ cap := by omega
  have h4 : 0 ≤ h := by omega
  have h5 : l ≤ (h.toNat : Int) := by omega
  rcases hl with ⟨rfl, rfl⟩ | ⟨kl, rfl⟩ <;> rcases hh with ⟨rfl, rfl⟩ | ⟨kh, rfl⟩
  · simp [Instr.sliceBounds]
  · simp [Instr.sliceBounds, Instr.sliceBound, asIntOf, h4, h3]
  · have h6 : l ≤ (len : Int) := by omega
    simp [Instr.sliceBounds, Instr.sliceBound, asIntOf, h0, h6]
  · simp [Instr.sliceBounds, Instr.sliceBound, asIntOf, h4, h3, h0, h5]
    intro hm; exfalso; omega

theorem cut_str {cx : Cx} (hT : TyOk cx) {t : TypeId} {ti : TI} (ht : cx.ty t = some ti) (hk : ti.kind = .str) {s : List UInt8} {u : Value} (hx : RepA w O L σ (.d (.str s)) u) {lo hi : Option Value} {l h : Int}
    (hl : (lo = none ∧ l = (0 : Nat)) ∨ ∃ k, lo = some (.int k l)) (hh : (hi = none ∧ h = s.length) ∨ ∃ k, hi = some (.int k h)) (h0 : 0 ≤ l) (h1 : l ≤ h) (h2 : h ≤ s.length) :
    ∃ z, (Instr.sliceAt t u lo hi none).run cx.P w = .ok z w ∧ RepA w O L σ (.d (.str ((s.drop l.toNat).take (h.toNat - l.toNat)))) z := by
  obtain ⟨_, _, _, _, t2, t3, _⟩ := hT _ _ ht
  rw [hk] at t3
  obtain rfl := kindOf_str t3
  obtain ⟨b, rfl, rfl⟩ := hx.str
  have hsz : b.data.toList.length = b.size := by simp
  rw [hsz] at hh h2
  have hs := sliceBounds_run (P := cx.P) (w := w) false b.size b.size (Nat.le_refl _) hl hh h0 h1 h2
  refine ⟨.string (b.extract l.toNat h.toNat), by simp [Instr.sliceAt, run_underlying t2, Instr.slice, hs], .d _ _ (.str _ _ ?_)⟩
  rw [ByteArray.data_extract, Array.toList_extract, List.extract_eq_take_drop]

theorem cut_dslice {cx : Cx} (hT : TyOk cx) {t e : TypeId} {ti ei : TI} (ht : cx.ty t = some ti) (hk : ti.kind = .slice e) (he : cx.ty e = some ei) {rows : List (List D)} {u : Value} (hx : RepA w O L σ (.d (.slice ei.size rows)) u) {lo hi : Option Value} {l h : Int}
    (hl : (lo = none ∧ l = (0 : Nat)) ∨ ∃ k, lo = some (.int k l)) (hh : (hi = none ∧ h = rows.length) ∨ ∃ k, hi = some (.int k h)) (h0 : 0 ≤ l) (h1 : l ≤ h) (h2 : h ≤ rows.length) :
    ∃ z, (Instr.sliceAt t u lo hi none).run cx.P w = .ok z w ∧ RepA w O L σ (.d (.slice ei.size ((rows.drop l.toNat).take (h.toNat - l.toNat)))) z := by
  obtain ⟨_, _, _, _, t2, t3, _⟩ := hT _ _ ht
  rw [hk] at t3
  obtain rfl := kindOf_slice t3
  obtain ⟨_, r2⟩ := isAgg_run (w := w) hT he
  obtain ⟨a, cap, rfl, hc, _⟩ := hx.dslice
  have hs := sliceBounds_run (P := cx.P) (w := w) true rows.length cap hc hl hh h0 h1 h2
  refine ⟨.slice (if cap = l.toNat then a else a.map (·.add (l.toNat * ei.size))) (h.toNat - l.toNat) (cap - l.toNat), by simp [Instr.sliceAt, run_underlying t2, Instr.slice, hs, r2], ?_⟩
  by_cases he : h.toNat - l.toNat = 0
  · rw [he, List.take_zero]
    exact .d _ _ (.empty _ _ _)
  · have hne : cap ≠ l.toNat := by omega
    rw [if_neg hne]
    cases hx with | d _ _ hx => cases hx with
    | empty => simp at h2; omega
    | slice _ _ B off n _ us hn hO hB hc hl' g1 g2 =>
      rw [show Option.map (fun x : Addr => x.add (l.toNat * ei.size)) (some ⟨B, off, none⟩) = some ⟨B, off + l.toNat * ei.size, none⟩ by simp [addr_add]]
      have hget : ∀ (i : Nat) r, ((rows.drop l.toNat).take (h.toNat - l.toNat))[i]? = some r → rows[l.toNat + i]? = some r := fun i r hi => by
        rw [List.getElem?_take] at hi
        split at hi
        · rwa [List.getElem?_drop] at hi
        · cases hi
      refine .d _ _ (.slice _ _ B _ _ _ (fun i j => us (l.toNat + i) j) ?_ hO hB ?_ (fun r hr => hl' r (List.mem_of_mem_drop (List.mem_of_mem_take hr))) (fun i r j d hi hj => ?_) (fun i r j d hi hj => g2 _ r j d (hget i r hi) hj))
      · simp; omega
      · omega
      · have := g1 _ r j d (hget i r hi) hj
        rw [Nat.add_mul] at this
        rw [← this]; congr 2; omega

/-- The cells of a value. -/
def cellsOf : AV → Option (List AV)
  | .agg cs => some cs
  | .undef | .tuple _ => none
  | .d x => (match x.one with | true => some [.d x] | false => none)
  | v => some [v]
theorem cellsOf_rep {x : AV} {cs : List AV} (h : cellsOf x = some cs) (hσ : ∀ s, L s → (σ s).oneCell' = true) {u : Value} (hx : RepA w O L σ x u) :
    u.cells.size = cs.length ∧ ∀ j c, cs[j]? = some c → RepA w O L σ c (u.cells.getD j Go.undef) := by
  have single : ∀ {x : AV} {u : Value}, u.oneCell' = true → RepA w O L σ x u → u.cells.size = [x].length ∧ ∀ j c, [x][j]? = some c → RepA w O L σ c (u.cells.getD j Go.undef) := by
    intro x u h1 hx
    have : u.cells = #[u] := by cases u <;> first | rfl | cases h1
    rw [this]
    refine ⟨rfl, fun j c hj => ?_⟩
    rcases j with _ | j
    · cases hj; exact hx
    · simp at hj
  cases hx with
  | undef => cases h
  | agg cs' vs hl hh => cases h; exact ⟨hl, hh⟩
  | tuple => cases h
  | d x v hr =>
    simp only [cellsOf] at h
    split at h
    · rename_i h1; cases h; exact single (hr.oneCell h1) (.d x _ hr)
    · cases h
  | nil sz => cases h; exact single rfl (.nil sz)
  | ptr s off b hL h' => cases h; exact single rfl (.ptr s off b hL h')
  | own s hL => cases h; exact single (hσ s hL) (.own s hL)
  | rptr s size i off b n cap hL h' => cases h; exact single rfl (.rptr s size i off b n cap hL h')
  | omap s hL => cases h; exact single (hσ s hL) (.omap s hL)
  | maybe p b hb => cases h; exact single rfl (.maybe p b hb)
  | fn f first caps xs vs hx hl h1 h2 => cases h; exact single rfl (.fn f first caps xs vs hx hl h1 h2)

/-- Cells put over others. -/
def over (cells : List AV) (off : Nat) (cs : List AV) : List AV := cells.take off ++ cs ++ cells.drop (off + cs.length)
theorem over_get {cells cs : List AV} {off : Nat} (h : off + cs.length ≤ cells.length) (j : Nat) : (over cells off cs)[j]? = if off ≤ j ∧ j < off + cs.length then cs[j - off]? else cells[j]? := by
  unfold over
  have hto : (cells.take off).length = off := by simp; omega
  by_cases h1 : j < off
  · rw [if_neg (by omega), List.append_assoc, List.getElem?_append_left (by omega), List.getElem?_take, if_pos h1]
  · by_cases h2 : j < off + cs.length
    · rw [if_pos ⟨by omega, h2⟩, List.append_assoc, List.getElem?_append_right (by omega), hto, List.getElem?_append_left (by omega)]
    · rw [if_neg (by omega), List.getElem?_append_right (by simp; omega), List.getElem?_drop]
      congr 1; simp; omega
theorem over_length {cells cs : List AV} {off : Nat} (h : off + cs.length ≤ cells.length) : (over cells off cs).length = cells.length := by
  unfold over; simp; omega

theorem foldl_set (vs : List Value) : ∀ (cells : Array Value) (off k : Nat) (j : Nat), off + k + vs.length ≤ cells.size →
    ((vs.zipIdx k).foldl (fun cs (p : Value × Nat) => cs.setIfInBounds (off + p.2) p.1) cells).size = cells.size ∧
    ((vs.zipIdx k).foldl (fun cs (p : Value × Nat) => cs.setIfInBounds (off + p.2) p.1) cells).getD j Go.undef = if off + k ≤ j ∧ j < off + k + vs.length then vs.getD (j - (off + k)) Go.undef else cells.getD j Go.undef := by
  induction vs with
  | nil => intro cells off k j _; simp; intro h1 h2; omega
  | cons v t ih =>
    intro cells off k j hle
    simp only [List.zipIdx_cons, List.foldl_cons]
    simp only [List.length_cons] at hle
    have := ih (cells.setIfInBounds (off + k) v) off (k + 1) j (by simp; omega)
    refine ⟨by rw [this.1]; simp, ?_⟩
    rw [this.2]
    by_cases h1 : j = off + k
    · subst h1
      rw [if_neg (by omega), if_pos (by simp)]
      simp [show off + k < cells.size by omega]
    · by_cases h2 : off + k ≤ j ∧ j < off + k + (t.length + 1)
      · rw [if_pos (by omega), if_pos (by simpa using h2)]
        obtain ⟨m, hm⟩ : ∃ m, j - (off + k) = m + 1 := ⟨j - (off + k) - 1, by omega⟩
        rw [hm, show j - (off + (k + 1)) = m by omega]
        simp
      · rw [if_neg (by omega), if_neg (by simpa using h2)]
        simp only [Array.getD_eq_getD_getElem?]
        rw [Array.getElem?_setIfInBounds_ne (by omega)]

/-- A struct put together out of its fields. -/
def fillA (cx : Cx) (fs : List (Nat × TypeId)) : List AV → List (Nat × AV) → Option (List AV)
  | cells, [] => some cells
  | cells, (i, v) :: rest =>
    match fs[i]?, cellsOf v with
    | some (off, ft), some cs => (match cx.ty ft with
      | some fi => (match Nat.beq fi.size cs.length, Nat.ble (off + cs.length) cells.length with
        | true, true => fillA cx fs (over cells off cs) rest
        | _, _ => none)
      | none => none)
    | _, _ => none

theorem fillA_run {cx : Cx} (hT : TyOk cx) (hσ : ∀ s, L s → (σ s).oneCell' = true) {g : Array Field} {places : Array (Nat × Nat)} (hp : ∀ (i : Nat) fld fi, g[i]? = some fld → cx.ty fld.type = some fi → places[i]? = some (fld.offset, fi.size)) :
    ∀ (parts : List (Nat × AV)) (us : List (Nat × Value)) (cells r : List AV) (vs : Array Value), fillA cx (g.toList.map fun f => (f.offset, f.type)) cells parts = some r →
    us.length = parts.length → (∀ (j : Nat) p, parts[j]? = some p → ∃ u, us[j]? = some (p.1, u) ∧ RepA w O L σ p.2 u) → vs.size = cells.length → (∀ j c, cells[j]? = some c → RepA w O L σ c (vs.getD j Go.undef)) →
    ∃ vs', Instr.fill (places[·]?) vs us = some vs' ∧ vs'.size = r.length ∧ ∀ j c, r[j]? = some c → RepA w O L σ c (vs'.getD j Go.undef) := by
  intro parts
  induction parts with
  | nil =>
    intro us cells r vs h hl _ hs hc
    obtain rfl : us = [] := List.eq_nil_of_length_eq_zero hl
    simp only [fillA] at h; cases h
    exact ⟨vs, rfl, hs, hc⟩
  | cons p rest ih =>
    obtain ⟨i, v⟩ := p
    intro us cells r vs h hl hu hs hc
    cases us with
    | nil => simp at hl
    | cons q us =>
      obtain ⟨u, hq, hr⟩ := hu 0 (i, v) rfl
      obtain rfl : q = (i, u) := by simpa using hq
      simp only [fillA] at h
      split at h
      · rename_i off ft cs hf hcs
        split at h
        · rename_i fi hfi
          split at h
          · rename_i e1 e2
            have e1 : fi.size = cs.length := Nat.eq_of_beq_eq_true e1
            have e2 : off + cs.length ≤ cells.length := Nat.le_of_ble_eq_true e2
            rw [List.getElem?_map] at hf
            cases hg : g.toList[i]? with
            | none => rw [hg] at hf; cases hf
            | some fld =>
              rw [hg] at hf; cases hf
              have hg' : g[i]? = some fld := by rw [← Array.getElem?_toList]; exact hg
              have hpl := hp i fld fi hg' hfi
              obtain ⟨k1, k2⟩ := cellsOf_rep hcs hσ hr
              have hfold := fun j => foldl_set u.cells.toList vs fld.offset 0 j (by simp; omega)
              have := ih us _ r (u.cells.zipIdx.foldl (fun cs (c, j) => cs.setIfInBounds (fld.offset + j) c) vs) h (by simpa using hl) (fun j p hj => hu (j + 1) p hj) ?_ ?_
              · obtain ⟨vs', f1, f2⟩ := this
                refine ⟨vs', ?_, f2⟩
                simp only [Instr.fill, hpl]
                rw [if_neg (by simp; omega)]
                exact f1
              · rw [over_length e2, ← hs, ← (hfold 0).1, ← Array.foldl_toList, Array.toList_zipIdx]
              · intro j c hj
                rw [over_get e2] at hj
                have e : (u.cells.zipIdx.foldl (fun cs (c, j) => cs.setIfInBounds (fld.offset + j) c) vs).getD j Go.undef = if fld.offset + 0 ≤ j ∧ j < fld.offset + 0 + u.cells.toList.length then u.cells.toList.getD (j - (fld.offset + 0)) Go.undef else vs.getD j Go.undef := by
                  rw [← (hfold j).2, ← Array.foldl_toList, Array.toList_zipIdx]
                rw [e]
                have hlen : u.cells.toList.length = cs.length := by simpa using k1
                rw [hlen]
                simp only [Nat.add_zero]
                split at hj
                · rename_i hin
                  rw [if_pos hin]
                  have := k2 _ c hj
                  simpa using this
                · rename_i hin
                  rw [if_neg hin]; exact hc j c hj
          · cases h
        · cases h
      · cases h
end
end NQ

/-
  Operations of a walk on plain data: results in slots, new blocks, calls by contracts.
-/
set_option linter.unusedSimpArgs false
set_option linter.unusedVariables false
namespace NQ
open Go Go.RowKit

def normA : AV → Option AV
  | .undef => none
  | .d x => some (.d x)
  | .nil sz => some (.nil sz)
  | .ptr s o => some (.ptr s o)
  | .own s => some (.own s)
  | .rptr a b c d => some (.rptr a b c d)
  | .omap s => some (.omap s)
  | .maybe p => some (.maybe p)
  | .agg cs => some (.agg cs)
  | .tuple vs => some (.tuple vs)
  | .fn f a b => some (.fn f a b)
def normL : List AV → Option (List AV)
  | [] => some []
  | c :: t => match normA c, normL t with | some c', some t' => some (c' :: t') | _, _ => none
theorem normA_eq {v r : AV} (h : normA v = some r) : r = v := by cases v <;> first | (cases h; rfl) | cases h
theorem normL_eq : ∀ {l r : List AV}, normL l = some r → r = l
  | [], r, h => by cases h; rfl
  | c :: t, r, h => by
    simp only [normL] at h
    split at h
    · rename_i c' t' h1 h2
      cases h; rw [normA_eq h1, normL_eq h2]
    · cases h
/-- An aggregate with its cells laid out. -/
def normV : AV → Option AV
  | .agg cs => (match normL cs with | some cs => some (.agg cs) | none => none)
  | v => normA v
theorem normV_eq {v r : AV} (h : normV v = some r) : r = v := by
  cases v <;> first | exact normA_eq h | skip
  simp only [normV] at h
  split at h
  · rename_i h1; cases h; rw [normL_eq h1]
  · cases h

def nilFix (cx : Cx) (t : TypeId) : AV → AV
  | .nil 0 => (match cx.ty t with | some ⟨_, _, .slice e, _⟩ => (match cx.ty e with | some ei => .nil ei.size | none => .nil 0) | _ => .nil 0)
  | v => v
theorem nilFix_rep {w : World} {O L : Nat → Prop} {σ : Nat → Value} {cx : Cx} {t : TypeId} {v : AV} {u : Value} (h : RepA w O L σ v u) : RepA w O L σ (nilFix cx t v) u := by
  unfold nilFix
  split
  · cases h; split
    · split <;> exact .nil _
    · exact .nil _
  · exact h

/-- What yields a value and leaves the memory as it is. -/
def isPure : Op → Bool
  | .move _ => true
  | .assign _ => true
  | .pick .. => true
  | .load .. => true
  | .nilCheck _ => true
  | .binOp .. => true
  | .unOp .. => true
  | .convert .. => true
  | .build .. => true
  | .makeFunc .. => true
  | .slice .. => true
  | .fieldAddr .. => true
  | .field .. => true
  | .indexAddr .. => true
  | .index .. => true
  | .extract .. => true
  | .lookup .. => true
  | .call c => (match c.callee with | .builtin .len => true | _ => false)
  | _ => false
def OpVal (cx : Cx) (o : Oper) (st : St) (v : AV) : Prop :=
  ∀ (E : Env) st' σ a w, st.le st' → SimAt cx E st' σ a w → ∃ z, (execOp a.eval o).run cx.P w = .ok (.value z) w ∧ RepA w E.O (live st'.heap) σ v z
/-- An operation that adds a value, and blocks, and changes nothing else. -/
def OpOk (cx : Cx) (o : Oper) (st : St) (v : AV) (bs : List (Nat × Blk)) : Prop :=
  (∀ (E : Env) st' a w (Q : Exit → Act → World → Prop), st.le st' → (∀ e, o.dst = some e → e < E.nt) → (∀ s, live bs s → ¬ live st'.heap s) → Sim cx E st' a w →
    o.wp cx.P a w (fun a' w' => Sim cx E (st'.put o.dst v bs) a' w') Q) ∧ (isPure o.op = true → bs = [] ∧ OpVal cx o st v)
theorem OpOk.acts {cx : Cx} {o : Oper} {st : St} {v : AV} {bs : List (Nat × Blk)} (hp : isPure o.op = false) (h : ∀ (E : Env) st' a w (Q : Exit → Act → World → Prop), st.le st' → (∀ e, o.dst = some e → e < E.nt) → (∀ s, live bs s → ¬ live st'.heap s) → Sim cx E st' a w →
    o.wp cx.P a w (fun a' w' => Sim cx E (st'.put o.dst v bs) a' w') Q) : OpOk cx o st v bs := ⟨h, fun e => by rw [hp] at e; cases e⟩

theorem SimAt.one {cx : Cx} {E : Env} {st : St} {σ : Nat → Value} {a : Act} {w : World} (h : SimAt cx E st σ a w) : ∀ s, live st.heap s → (σ s).oneCell' = true := fun s hs => by
  obtain ⟨b, hb⟩ := live_some.1 hs
  exact (h.holds.blk s b hb).home.2

theorem OpOk.value {cx : Cx} {o : Oper} {st : St} {v : AV}
    (h : ∀ (E : Env) st' σ a w, st.le st' → SimAt cx E st' σ a w → ∃ z, (execOp a.eval o).run cx.P w = .ok (.value z) w ∧ RepA w E.O (live st'.heap) σ v z) : OpOk cx o st v [] := by
  refine ⟨?_, fun _ => ⟨rfl, h⟩⟩
  intro E st' a w Q hle hd _ ⟨σ, hs⟩
  obtain ⟨z, hz, hr⟩ := h E st' σ a w hle hs
  simp only [Oper.wp, hz, Oper.upon]
  exact ⟨σ, hs.put hd hr⟩

theorem live_one {d : Nat} {b : Blk} {s : Nat} : live [(d, b)] s ↔ s = d := by
  unfold live find find
  by_cases h : d = s
  · subst h; simp
  · have : Nat.beq d s = false := by rw [← Bool.not_eq_true]; exact fun e => h (Nat.eq_of_beq_eq_true e)
    simp [this]; exact fun e => h e.symm

theorem OpOk.new {cx : Cx} {o : Oper} {st : St} {v : AV} {d : Nat} {b : Blk} (hp : isPure o.op = false) (hdst : o.dst = some d)
    (h : ∀ (E : Env) st' σ a w, st.le st' → SimAt cx E st' σ a w → ∃ w' u τ, (execOp a.eval o).run cx.P w = .ok (.value u) w' ∧ Below w.heap.size w w' ∧ (∀ g, home τ = some g → w.heap.size ≤ g) ∧
      ∀ σ' : Nat → Value, σ' d = τ → (∀ g, w.heap.size ≤ g → E.F g) → Keeps w w' (Own E.O (live st'.heap) σ) (Own E.O (live ([(d, b)] ++ st'.heap)) σ') → (∀ s, live st'.heap s → live ([(d, b)] ++ st'.heap) s ∧ σ' s = σ s) → live ([(d, b)] ++ st'.heap) d →
        BlkOk w' E.F E.O (live ([(d, b)] ++ st'.heap)) σ' d b ∧ RepA w' E.O (live ([(d, b)] ++ st'.heap)) σ' v u) : OpOk cx o st v [(d, b)] := by
  refine OpOk.acts hp ?_
  intro E st' a w Q hle hd hfresh ⟨σ, hs⟩
  obtain ⟨w', u, τ, hz, hbel, hhome, hh⟩ := h E st' σ a w hle hs
  simp only [Oper.wp, hz, Oper.upon]
  have hn : ¬ live st'.heap d := hfresh d (live_one.2 rfl)
  let σ' : Nat → Value := fun s => if s = d then τ else σ s
  have e1 : σ' d = τ := if_pos rfl
  have e2 : ∀ s, live st'.heap s → σ' s = σ s := fun s hl => if_neg fun (e : s = d) => hn (e ▸ hl)
  have hkeep : Keeps w w' (Own E.O (live st'.heap) σ) (Own E.O (live ([(d, b)] ++ st'.heap)) σ') := by
    refine ⟨hbel.size, fun x _ hx => hbel.block x hx, fun x hno hx ho => ?_⟩
    rcases ho with ho | ⟨s, hl, e⟩
    · exact hno (.inl ho)
    · rcases live_append.1 hl with hl | hl
      · rw [live_one.1 hl, e1] at e; have := hhome x e; omega
      · rw [e2 s hl] at e; exact hno (.inr ⟨s, hl, e⟩)
  obtain ⟨hb, hr⟩ := hh σ' e1 (fun g hg => hs.new g (Nat.le_trans hs.frame.size hg)) hkeep (fun s hl => ⟨live_append.2 (.inr hl), e2 s hl⟩) (live_append.2 (.inl (live_one.2 rfl)))
  have hfx : ∀ q0 B, E.fix q0 = some B → ¬ live [(d, b)] q0 := fun q0 B hB hl => by
    have h1 := (hs.fix q0 B hB).1
    have h2 : d < E.nt := hd d hdst
    have h3 : q0 = d := live_one.1 hl
    omega
  refine ⟨σ', hs.grow hd e2 hbel hfx (fun s x hl e => ?_) (fun s s' x hl hl' _ _ => (live_one.1 hl).trans (live_one.1 hl').symm) (fun s x hx => ?_) hr⟩
  · rw [live_one.1 hl, e1] at e; exact hhome x e
  · have hl := live_one.1 (live_some.2 ⟨x, hx⟩)
    subst hl
    rw [find_cons_self] at hx; cases hx
    exact hb
theorem below_new (w : World) (o : Obj) : Below w.heap.size w (w.alloc o) := (Below.refl _ _).alloc (Nat.le_refl _) o
theorem below_grow {w w' : World} (h : w.grownBy w' none) : Below w.heap.size w w' := (Below.refl _ w).grown h (Nat.le_refl _) fun k e => by cases e
end NQ

/-
  What each operation of a walk on plain data gives.
-/
set_option linter.unusedSimpArgs false
set_option linter.unusedVariables false
namespace NQ
open Go Go.RowKit

def Callable (P : Program) (f : FuncId) : Prop := ∃ fn, P.funcs[f]? = some fn ∧ (fn.name == "runtime.NumGoroutine") = false ∧ fn.body.isNone = false

/-- A function's contract on plain data: it returns v, with new blocks bs; nothing that was there has changed. -/
def Fn (cx : Cx) (f : FuncId) (args : List D) (v : AV) (bs : List (Nat × Blk)) : Prop :=
  Callable cx.P f ∧ ∀ (O : Nat → Prop) (w : World) (vs : Array Value), (∀ b, O b → b < w.heap.size) → Glob cx w → (∀ g cells, cx.gl g = some cells → ¬ O g) → vs.size = args.length →
    (∀ (j : Nat) d, args[j]? = some d → Rep w O d (vs.getD j Go.undef)) →
    Calls cx.P f vs w fun e w' => ∃ u τ, e = .returned u ∧ Below w.heap.size w w' ∧ Holds w' (w.heap.size ≤ ·) O bs τ ∧ RepA w' O (live bs) τ v u

/-- A function that is handed the address of a variable of the caller's own, with plain data in it, and may change it. -/
def FnB (cx : Cx) (f : FuncId) (cells args : List D) (v : AV) (cells' : List D) : Prop :=
  Callable cx.P f ∧ ∀ (O : Nat → Prop) (w : World) (B : Nat) (cur : Array Value) (t : TypeId) (vs : Array Value), (∀ b, O b → b < w.heap.size) → Glob cx w → (∀ g cells, cx.gl g = some cells → ¬ O g) → O B →
    w.heap[B]? = some (.cells cur t (0, 0)) → cur.size = cells.length → (∀ (j : Nat) d, cells[j]? = some d → d.one = true ∧ Rep w O d (cur.getD j Go.undef)) → vs.size = args.length → (∀ (j : Nat) d, args[j]? = some d → Rep w O d (vs.getD j Go.undef)) →
    Calls cx.P f (#[.pointer (some ⟨B, 0, none⟩)] ++ vs) w fun en w' => ∃ u cur' t', en = .returned u ∧ w'.os = w.os ∧ w'.tape = w.tape ∧ w'.output = w.output ∧ w.heap.size ≤ w'.heap.size ∧
      (∀ k, k < w.heap.size → k ≠ B → w'.heap[k]? = w.heap[k]?) ∧ w'.heap[B]? = some (.cells cur' t' (0, 0)) ∧ cur'.size = cells'.length ∧ (∀ (j : Nat) d, cells'[j]? = some d → d.one = true ∧ Rep w' O d (cur'.getD j Go.undef)) ∧
      RepA w' O (fun _ => False) (fun _ => .nilFunc) v u

def viewL (f : AV → Option D) : List AV → Option (List D)
  | [] => some []
  | c :: t => match f c, viewL f t with | some x, some xs => some (x :: xs) | _, _ => none
theorem viewL_get {f : AV → Option D} : ∀ {l : List AV} {r : List D}, viewL f l = some r → r.length = l.length ∧ ∀ (j : Nat) d, r[j]? = some d → ∃ c, l[j]? = some c ∧ f c = some d
  | [], r, h => by cases h; exact ⟨rfl, fun j d hj => by simp at hj⟩
  | c :: t, r, h => by
    simp only [viewL] at h
    split at h
    · rename_i x xs h1 h2
      cases h
      obtain ⟨e1, e2⟩ := viewL_get h2
      refine ⟨by simp [e1], fun j d hj => ?_⟩
      cases j with
      | zero => simp at hj; subst hj; exact ⟨c, rfl, h1⟩
      | succ j => simp at hj; simpa using e2 j d hj
    · cases h

/-- Values without blocks of one's own, as data. -/
def freeC : AV → Option D
  | .d x => some x
  | .nil sz => some (.slice sz [])
  | _ => none
def freeF : AV → Option D
  | .fn f first caps => (match viewL freeC first, viewL freeC caps with | some a, some b => some (.fn f a b) | _, _ => none)
  | v => freeC v
def oneD (x : D) : Bool := x.one
def freeA : AV → Option D
  | .agg cs => (match viewL freeF cs with | some xs => (match xs.all oneD with | true => some (.agg xs) | false => none) | none => none)
  | v => freeF v

/-- All values as data: blocks of one's own are read. -/
def viewC (st : St) : AV → Option D
  | .own s => (match find st.heap s with | some (.row _ sz rows _) => some (.slice sz rows) | _ => none)
  | v => freeC v
def viewP (st : St) : AV → Option D
  | .ptr s off => (match find st.heap s with | some (.box cells) => (match viewL (viewC st) (cells.drop off) with | some xs => (match xs.all oneD with | true => some (.ptr xs) | false => none) | none => none) | _ => none)
  | v => viewC st v
def viewF (st : St) : AV → Option D
  | .fn f first caps => (match viewL (viewP st) first, viewL (viewP st) caps with | some a, some b => some (.fn f a b) | _, _ => none)
  | v => viewP st v
def viewA (st : St) : AV → Option D
  | .agg cs => (match viewL (viewF st) cs with | some xs => (match xs.all oneD with | true => some (.agg xs) | false => none) | none => none)
  | v => viewF st v

section
variable {w : World} {O L : Nat → Prop} {σ : Nat → Value}

theorem freeC_rep {v : AV} {x : D} (h : freeC v = some x) {u : Value} (hr : RepA w O L σ v u) : Rep w (Own O L σ) x u := by
  cases v <;> simp only [freeC] at h <;> try (cases h; done)
  · cases h; cases hr; assumption
  · cases h; cases hr; exact .empty _ _ _
theorem freeF_rep {v : AV} {x : D} (h : freeF v = some x) {u : Value} (hr : RepA w O L σ v u) : Rep w (Own O L σ) x u := by
  cases v <;> try (refine freeC_rep ?_ hr; exact h)
  simp only [freeF] at h
  split at h
  · rename_i a b h1 h2
    cases h
    cases hr with | fn f first caps xs vs hx hl g1 g2 =>
      obtain ⟨l1, k1⟩ := viewL_get h1
      obtain ⟨l2, k2⟩ := viewL_get h2
      refine .fn _ _ _ _ _ (hx.trans l1.symm) (hl.trans l2.symm) (fun j d hj => ?_) (fun j d hj => ?_)
      · obtain ⟨c, hc, hd⟩ := k1 j d hj; exact freeC_rep hd (g1 j c hc)
      · obtain ⟨c, hc, hd⟩ := k2 j d hj; exact freeC_rep hd (g2 j c hc)
  · cases h
theorem freeA_rep {v : AV} {x : D} (h : freeA v = some x) {u : Value} (hr : RepA w O L σ v u) : Rep w (Own O L σ) x u := by
  cases v <;> try (refine freeF_rep ?_ hr; exact h)
  simp only [freeA] at h
  split at h
  · rename_i xs h1
    split at h
    · rename_i h2
      cases h
      cases hr with | agg cs vs hl g =>
        obtain ⟨l1, k1⟩ := viewL_get h1
        refine .agg _ _ (hl.trans l1.symm) (fun d hd => List.all_eq_true.1 h2 d hd) (fun j d hj => ?_)
        obtain ⟨c, hc, hd⟩ := k1 j d hj; exact freeF_rep hd (g j c hc)
    · cases h
  · cases h

theorem viewC_rep {st : St} {F : Nat → Prop} (hh : Holds w F O st.heap σ) (hOF : ∀ b, O b → ¬ F b) {v : AV} {x : D} (h : viewC st v = some x) {u : Value} (hr : RepA w O (live st.heap) σ v u) : Rep w O x u := by
  have kl : Keeps w w (Own O (live st.heap) σ) O := Keeps.less fun b h => .inl h
  cases v <;> try (refine Rep.mono kl (freeC_rep ?_ hr); exact h)
  rename_i s
  simp only [viewC] at h
  split at h
  · rename_i e sz rows fl hf
    cases h
    cases hr with | own _ hL =>
      obtain ⟨xs, o1, o2, o3, o4, o5⟩ := hh.blk s _ hf
      rcases o1.2 with ⟨e1, e2⟩ | ⟨g, cap, cur, e1, _, e3, e4, _, e6, e7⟩
      · obtain rfl : rows = [] := List.eq_nil_of_length_eq_zero e2
        rw [e1]; exact .empty _ _ _
      · rw [e1]
        have hget : ∀ (i : Nat) r (j : Nat) d, rows[i]? = some r → r[j]? = some d → w.cell? ⟨g, 0 + i * sz + j, none⟩ = some (xs.getD (i * sz + j) Go.undef) ∧ Rep w O d (xs.getD (i * sz + j) Go.undef) := by
          intro i r j d hi hj
          obtain ⟨u, hu, hd⟩ := o5 i r j d hi hj
          have hx : xs.getD (i * sz + j) Go.undef = u := by simp [List.getD, hu]
          rw [hx]
          refine ⟨?_, hd.mono kl⟩
          rw [← e7, List.getElem?_take] at hu
          split at hu
          · simp only [World.cell?, e3, Nat.zero_add]
            simpa using hu
          · cases hu
        exact .slice sz rows g 0 _ cap (fun i j => xs.getD (i * sz + j) Go.undef) rfl (fun h => hOF g h (o2 g (by rw [e1]; rfl))) (Array.getElem?_eq_some_iff.1 e3).1 e4 o4 (fun i r j d hi hj => (hget i r j d hi hj).1) (fun i r j d hi hj => (hget i r j d hi hj).2)
  · cases h
theorem viewP_rep {st : St} {F : Nat → Prop} (hh : Holds w F O st.heap σ) (hOF : ∀ b, O b → ¬ F b) {v : AV} {x : D} (h : viewP st v = some x) {u : Value} (hr : RepA w O (live st.heap) σ v u) : Rep w O x u := by
  cases v <;> try (refine viewC_rep hh hOF ?_ hr; exact h)
  rename_i s off
  simp only [viewP] at h
  split at h
  · rename_i cells hf
    split at h
    · rename_i xs h1
      split at h
      · rename_i h2
        cases h
        cases hr with | ptr _ _ b hL hs =>
          obtain ⟨b', cur, t, e1, e2, e3, e4, e5⟩ := hh.blk s _ hf
          rw [hs] at e1; cases e1
          obtain ⟨l1, k1⟩ := viewL_get h1
          have hget : ∀ (j : Nat) d, xs[j]? = some d → w.cell? ⟨b, off + j, none⟩ = some (cur.getD (off + j) Go.undef) ∧ Rep w O d (cur.getD (off + j) Go.undef) := by
            intro j d hj
            obtain ⟨c, hc, hd⟩ := k1 j d hj
            rw [List.getElem?_drop] at hc
            have hlt : off + j < cur.size := by have := (List.getElem?_eq_some_iff.1 hc).1; omega
            refine ⟨by simp [World.cell?, e3, hlt], viewC_rep hh hOF hd (e5 _ c hc).2⟩
          exact .ptr xs b off (fun j => cur.getD (off + j) Go.undef) (fun h => hOF b h e2) (Array.getElem?_eq_some_iff.1 e3).1 (fun d hd => List.all_eq_true.1 h2 d hd) (fun j d hj => (hget j d hj).1) (fun j d hj => (hget j d hj).2)
      · cases h
    · cases h
  · cases h
theorem viewF_rep {st : St} {F : Nat → Prop} (hh : Holds w F O st.heap σ) (hOF : ∀ b, O b → ¬ F b) {v : AV} {x : D} (h : viewF st v = some x) {u : Value} (hr : RepA w O (live st.heap) σ v u) : Rep w O x u := by
  cases v <;> try (refine viewP_rep hh hOF ?_ hr; exact h)
  simp only [viewF] at h
  split at h
  · rename_i a b h1 h2
    cases h
    cases hr with | fn f first caps xs vs hx hl g1 g2 =>
      obtain ⟨l1, k1⟩ := viewL_get h1
      obtain ⟨l2, k2⟩ := viewL_get h2
      refine .fn _ _ _ _ _ (hx.trans l1.symm) (hl.trans l2.symm) (fun j d hj => ?_) (fun j d hj => ?_)
      · obtain ⟨c, hc, hd⟩ := k1 j d hj; exact viewP_rep hh hOF hd (g1 j c hc)
      · obtain ⟨c, hc, hd⟩ := k2 j d hj; exact viewP_rep hh hOF hd (g2 j c hc)
  · cases h
theorem viewA_rep {st : St} {F : Nat → Prop} (hh : Holds w F O st.heap σ) (hOF : ∀ b, O b → ¬ F b) {v : AV} {x : D} (h : viewA st v = some x) {u : Value} (hr : RepA w O (live st.heap) σ v u) : Rep w O x u := by
  cases v <;> try (refine viewF_rep hh hOF ?_ hr; exact h)
  simp only [viewA] at h
  split at h
  · rename_i xs h1
    split at h
    · rename_i h2
      cases h
      cases hr with | agg cs vs hl g =>
        obtain ⟨l1, k1⟩ := viewL_get h1
        refine .agg _ _ (hl.trans l1.symm) (fun d hd => List.all_eq_true.1 h2 d hd) (fun j d hj => ?_)
        obtain ⟨c, hc, hd⟩ := k1 j d hj; exact viewF_rep hh hOF hd (g j c hc)
    · cases h
  · cases h
end
end NQ

/-
  What an operation that only adds gives, as a condition; and that it is enough.
-/
set_option linter.unusedSimpArgs false
set_option linter.unusedVariables false
namespace NQ
open Go Go.RowKit

/-- A test on a bool. -/
def bcase (b : Bool) (p q : Prop) : Prop := match b with | true => p | false => q
theorem bcase_intro {b : Bool} {p q : Prop} (h1 : b = true → p) (h2 : b = false → q) : bcase b p q := by
  cases b
  · exact h2 rfl
  · exact h1 rfl

abbrev KK := AV → List (Nat × Blk) → Prop
def optK (o : Option AV) (k : KK) : Prop := match o with | some v => k v [] | none => False
def takeN (cx : Cx) (t : TypeId) (cs : List AV) : Option AV := match takeA cx t cs with | some v => normV v | none => none

def loadK (cx : Cx) (st : St) (t : TypeId) (x : AV) (k : KK) : Prop :=
  match x with
  | .ptr s off => (match find st.heap s with | some (.box cells) => optK (takeN cx t (cells.drop off)) k | _ => False)
  | .rptr s sz i off => (match find st.heap s with
    | some (.row _ sz' rows _) => (match Nat.beq sz' sz with | true => ∃ row, rows[i]? = some row ∧ optK (takeN cx t ((row.drop off).map .d)) k | false => False)
    | some (.arow _ sz' rows) => (match Nat.beq sz' sz with | true => ∃ row, rows[i]? = some row ∧ optK (takeN cx t (row.drop off)) k | false => False)
    | _ => False)
  | .d (.ptr cells) => optK (takeN cx t (cells.map .d)) k
  | _ => False

def sliceElem (cx : Cx) (t : TypeId) : Option (TypeId × TI) :=
  match cx.ty t with
  | some ⟨_, _, .slice e, _⟩ => (match cx.ty e with | some ei => some (e, ei) | none => none)
  | _ => none
def arrayElem (cx : Cx) (t : TypeId) : Option (Nat × TI) :=
  match cx.ty t with
  | some ⟨_, _, .array n e, _⟩ => (match cx.ty e with | some ei => some (n, ei) | none => none)
  | _ => none
def isStr (cx : Cx) (t : TypeId) : Bool := match cx.ty t with | some ⟨_, _, .str, _⟩ => true | _ => false

def indexAddrK (cx : Cx) (st : St) (t : TypeId) (x i : AV) (k : KK) : Prop :=
  match i with
  | .d (.int _ n) => (match sliceElem cx t with
    | some (_, ei) => (match x with
      | .d (.slice sz rows) => (match Nat.beq sz ei.size with | true => 0 ≤ n ∧ ∃ row, rows[n.toNat]? = some row ∧ k (.d (.ptr row)) [] | false => False)
      | .own s => (match find st.heap s with
        | some (.row _ sz rows _) => (match Nat.beq sz ei.size with | true => 0 ≤ n ∧ n.toNat < rows.length ∧ k (.rptr s sz n.toNat 0) [] | false => False)
        | some (.arow _ sz rows) => (match Nat.beq sz ei.size with | true => 0 ≤ n ∧ n.toNat < rows.length ∧ k (.rptr s sz n.toNat 0) [] | false => False)
        | _ => False)
      | _ => False)
    | none => (match arrayElem cx t with
      | some (m, ei) => 0 ≤ n ∧ n < m ∧ optK (addA x (n.toNat * ei.size)) k
      | none => False))
  | _ => False

def indexK (cx : Cx) (t : TypeId) (x i : AV) (k : KK) : Prop :=
  match x, i, isStr cx t with
  | .d (.str s), .d (.int _ n), true => 0 ≤ n ∧ ∃ c, s[n.toNat]? = some c ∧ k (.d (.int .u8 c.toNat)) []
  | _, _, _ => False

def cutK (cx : Cx) (t : TypeId) (x : AV) (lo hi : Option AV) (k : KK) : Prop :=
  match x with
  | .d (.str s) => (match isStr cx t, bnd 0 lo, bnd s.length hi with
    | true, some l, some h => 0 ≤ l ∧ l ≤ h ∧ h ≤ s.length ∧ k (.d (.str ((s.drop l.toNat).take (h.toNat - l.toNat)))) []
    | _, _, _ => False)
  | .d (.slice sz rows) => (match sliceElem cx t, bnd 0 lo, bnd rows.length hi with
    | some (_, ei), some l, some h => (match Nat.beq sz ei.size with
      | true => 0 ≤ l ∧ l ≤ h ∧ h ≤ rows.length ∧ k (.d (.slice sz ((rows.drop l.toNat).take (h.toNat - l.toNat)))) []
      | false => False)
    | _, _, _ => False)
  | _ => False

def argsA (cx : Cx) (st : St) : List Operand → List TypeId → List AV
  | [], _ => []
  | x :: xs, t :: ts => nilFix cx t (st.ev cx x) :: argsA cx st xs ts
  | x :: xs, [] => st.ev cx x :: argsA cx st xs []

def callee : AV → Option (FuncId × List AV × List AV)
  | .d (.fn g a b) => some (g, a.map .d, b.map .d)
  | .fn g a b => some (g, a, b)
  | _ => none
def flat1V : AV → Bool
  | .d x => x.flat1
  | _ => false
def flat2V : AV → Bool
  | .d x => x.flat
  | .agg cs => cs.all flat1V
  | _ => false
def flatV : AV → Bool
  | .tuple vs => vs.all flat2V
  | v => flat2V v
def lowB : List (Nat × Blk) → Bool
  | [] => true
  | (s, _) :: t => (match Nat.blt s 100000 with | true => lowB t | false => false)
theorem lowB_ok : ∀ {bs : List (Nat × Blk)}, lowB bs = true → ∀ s, live bs s → s < 100000
  | [], _, s, h => by simp [live, find] at h
  | (k, b) :: t, hl, s, h => by
    simp only [lowB] at hl
    split at hl
    · rename_i hb
      by_cases e : k = s
      · subst e; exact Nat.lt_of_succ_le (Nat.le_of_ble_eq_true hb)
      · refine lowB_ok hl s ?_
        unfold live at h ⊢
        rwa [find_cons_ne _ _ e] at h
    · cases hl
def onlyD : AV → Option D
  | .d x => some x
  | _ => none
/-- A call that looks at a variable of one's own, and leaves it as it is. -/
def lookBoxK (cx : Cx) (st : St) (g : FuncId) (args : List AV) (k : KK) : Prop :=
  match args with
  | .ptr s 0 :: rest => (match find st.heap s, viewL freeA rest with
    | some (.box cs), some ds => (match viewL onlyD cs with
      | some cells => ∃ v, FnB cx g cells ds v cells ∧ k v []
      | none => False)
    | _, _ => False)
  | _ => False
def fnK (cx : Cx) (st : St) (f : AV) (args : List AV) (k : KK) : Prop :=
  match callee f with
  | some (g, a, b) => (match Nat.beq (cx.chg g) 4 with
    | true => lookBoxK cx st g (a ++ args ++ b) k
    | false => match viewL freeA (a ++ args ++ b) with
    | some ds => ∃ v bs, Fn cx g ds v bs ∧ (match lowB bs with | true => k v bs | false => False)
    | none => (match viewL (viewA st) (a ++ args ++ b) with
      | some ds => ∃ v, Fn cx g ds v [] ∧ flatV v = true ∧ k v []
      | none => False))
  | none => False

def lenK (cx : Cx) (st : St) (t : TypeId) (x : AV) (k : KK) : Prop :=
  match x with
  | .d (.str s) => (match isStr cx t with | true => k (.d (.int .i64 s.length)) [] | false => False)
  | .d (.slice _ rows) => (match sliceElem cx t with | some _ => k (.d (.int .i64 rows.length)) [] | none => False)
  | .nil _ => (match sliceElem cx t with | some _ => k (.d (.int .i64 0)) [] | none => False)
  | .own s => (match sliceElem cx t, find st.heap s with | some _, some (.row _ _ rows _) => k (.d (.int .i64 rows.length)) [] | some _, some (.arow _ _ rows) => k (.d (.int .i64 rows.length)) [] | _, _ => False)
  | _ => False

def callK (cx : Cx) (st : St) (c : Call) (k : KK) : Prop :=
  match c.callee with
  | .builtin .len => (match c.args.toList, c.argTypes.toList with | [x], [t] => lenK cx st t (st.ev cx x) k | _, _ => False)
  | .value f => fnK cx st (st.ev cx f) (argsA cx st c.args.toList c.argTypes.toList) k
  | _ => False

def partA (cx : Cx) (st : St) (fs : List (Nat × TypeId)) (p : Nat × Operand) : Nat × AV := (p.1, match fs[p.1]? with | some (_, ft) => nilFix cx ft (st.ev cx p.2) | none => st.ev cx p.2)
def buildK (cx : Cx) (st : St) (t : TypeId) (parts : List (Nat × Operand)) (k : KK) : Prop :=
  match cx.ty t with
  | some ⟨_, _, .struct fs, zero⟩ => (match fillA cx fs zero (parts.map (partA cx st fs)) with
    | some cs => (match normL cs, fs.all (fun p => (cx.ty p.2).isSome) with | some cs, true => k (.agg cs) [] | _, _ => False)
    | none => False)
  | _ => False

/-- The elements of a slice that is written out, in order. -/
def rowsA (st : St) (cx : Cx) (size : Nat) : Nat → List (Nat × Operand) → Option (List (List D))
  | _, [] => some []
  | i, (j, x) :: rest => (match Nat.beq i j with
    | true => (match cellsOf (st.ev cx x) with
      | some cs => (match viewL freeF cs with
        | some ds => (match Nat.beq ds.length size, ds.all oneD, rowsA st cx size (i + 1) rest with | true, true, some rs => some (ds :: rs) | _, _, _ => none)
        | none => none)
      | none => none)
    | false => none)

/-- The same, with cells that are no plain data. -/
def rowsV (st : St) (cx : Cx) (size : Nat) : Nat → List (Nat × Operand) → Option (List (List AV))
  | _, [] => some []
  | i, (j, x) :: rest => (match Nat.beq i j with
    | true => (match cellsOf (st.ev cx x) with
      | some cs0 => (match normL cs0 with
        | some cs => (match Nat.beq cs.length size, cs.all AV.one, rowsV st cx size (i + 1) rest with | true, true, some rs => some (cs :: rs) | _, _, _ => none)
        | none => none)
      | none => none)
    | false => none)

def smFind (k : List UInt8) : List (List UInt8 × D) → Option D
  | [] => none
  | (k', v) :: t => if k = k' then some v else smFind k t
def smPut (k : List UInt8) (v : D) : List (List UInt8 × D) → List (List UInt8 × D)
  | [] => [(k, v)]
  | (k', v') :: t => if k = k' then (k', v) :: t else (k', v') :: smPut k v t
def D.toAV : D → AV
  | .agg cs => .agg (cs.map .d)
  | x => .d x
def zeroA (i : TI) : Option AV := match i.kind.isAgg with | true => some (.agg i.zero) | false => (match i.zero with | [c] => some c | _ => none)
def mapOf (st : St) : AV → Option (List (List D × D))
  | .omap s => (match find st.heap s with | some (.kmap m) => some m | _ => none)
  | .d (.kmap m) => some m
  | _ => none
def lookupKm (cx : Cx) (t : TypeId) (m : List (List D × D)) (key : AV) (ok : Bool) (k : KK) : Prop :=
  match key, cx.ty t with
  | .agg cs, some ⟨_, _, .map kt et, _⟩ => (match viewL freeC cs, cx.eqT kt, cx.ty et with
    | some kc, some ks, some ei => (match zeroA ei, fitK ks kc with
      | some z, true => ∃ r, kmFind ks kc m = some r ∧ (match r with
        | some v => (match ok with | true => k (.tuple [v.toAV, .d (.bool true)]) [] | false => k v.toAV [])
        | none => (match ok with | true => k (.tuple [z, .d (.bool false)]) [] | false => k z []))
      | _, _ => False)
    | _, _, _ => False)
  | _, _ => False
def lookupK (cx : Cx) (st : St) (t : TypeId) (x key : AV) (ok : Bool) (k : KK) : Prop :=
  match mapOf st x with
  | some m => lookupKm cx t m key ok k
  | none =>
  match x, key, cx.ty t with
  | .omap s, .d (.str b), some ⟨_, _, .map kt et, _⟩ => (match find st.heap s, isStr cx kt, cx.ty et with
    | some (.smap m), true, some ei => (match zeroA ei with
      | some z => (match smFind b m with
        | some v => (match ok with | true => k (.tuple [v.toAV, .d (.bool true)]) [] | false => k v.toAV [])
        | none => (match ok with | true => k (.tuple [z, .d (.bool false)]) [] | false => k z []))
      | none => False)
    | _, _, _ => False)
  | _, _, _ => False
def sameOp : Operand → Operand → Bool
  | .tmp a, .tmp b => Nat.beq a b
  | _, _ => false
theorem sameOp_eq {a b : Operand} (h : sameOp a b = true) : a = b := by
  cases a <;> cases b <;> first | (cases h; done) | (exact congrArg Operand.tmp (Nat.eq_of_beq_eq_true h))
def makeSliceK (cx : Cx) (d : Option Nat) (t : TypeId) (l c : AV) (fl : Bool) (k : KK) : Prop :=
  match d, sliceElem cx t, l, c with
  | some d, some (e, ei), .d (.int _ n), .d (.int _ m) => (match viewL freeC ei.zero with
    | some z => 0 ≤ n ∧ (n = m ∨ n = 0) ∧ 0 ≤ m ∧ m.toNat * ei.bytes ≤ 140737488355328 ∧ m ≤ 9223372036854775807 ∧ (match Nat.ble 1 ei.size with | true => k (.own d) [(d, .row e ei.size (List.replicate n.toNat z) fl)] | false => False)
    | none => False)
  | _, _, _, _ => False

def inL (x : Nat) : List Nat → Bool
  | [] => false
  | y :: t => (match Nat.beq x y with | true => true | false => inL x t)
def hintOk : Option AV → Bool
  | none => true
  | some (.d (.int _ _)) => true
  | _ => false
/-- Are the keys structs? -/
def mapKind (cx : Cx) (t : TypeId) : Option Bool :=
  match cx.ty t with
  | some ⟨_, _, .map kt _, _⟩ => (match cx.eqT kt with | some _ => some true | none => some false)
  | _ => none
/-- The nil pointer, as a constant. -/
def isNilP : Operand → Bool
  | .const (.pointer none) => true
  | .const .nilFunc => true
  | _ => false
/-- Two texts that are put together. -/
def strAdd (op : BinOp) (x y : AV) : Option (List UInt8 × List UInt8) :=
  match op with
  | .add => (match x, y with | .d (.str a), .d (.str b) => some (a, b) | _, _ => none)
  | _ => none
/-- An operation that only adds a value and blocks: what it must be shown. -/
def opK (cx : Cx) (d : Option Nat) (ty : TypeId) (st : St) (op : Op) (k : KK) : Prop :=
  match op with
  | .move x => optK (normV (nilFix cx ty (st.ev cx x))) k
  | .assign x => (match isNilP x with | true => k .undef [] | false => optK (normV (nilFix cx ty (st.ev cx x))) k)
  | .pick c a b => (match st.ev cx c with
    | .d (.bool t) => bcase t (optK (normV (st.ev cx a)) k) (optK (normV (st.ev cx b)) k)
    | _ => False)
  | .alloc e => (match d, cx.ty e with | some d, some i => k (.ptr d 0) [(d, .box i.zero)] | _, _ => False)
  | .box _ x => (match d, cellsOf (st.ev cx x) with | some d, some cs => (match normL cs with | some cs => (match cs.all AV.one with | true => k (.ptr d 0) [(d, .box cs)] | false => False) | none => False) | _, _ => False)
  | .build t parts => buildK cx st t parts.toList k
  | .buildSlice t len parts => (match d, sliceElem cx t with
    | some d, some (e, ei) => (match rowsA st cx ei.size 0 parts.toList with
      | some rows => (match Nat.beq rows.length len, Nat.ble (len * ei.size) 16777216, Nat.ble 1 ei.size, inL d cx.bld with | true, true, true, false => k (.own d) [(d, .row e ei.size rows)] | true, true, true, true => k (.d (.slice ei.size rows)) [] | _, _, _, _ => False)
      | none => (match rowsV st cx ei.size 0 parts.toList with
        | some rows => (match Nat.beq rows.length len, Nat.ble (len * ei.size) 16777216, Nat.ble 1 ei.size with | true, true, true => k (.own d) [(d, .arow e ei.size rows)] | _, _, _ => False)
        | none => False))
    | _, _ => False)
  | .load t x => loadK cx st t (st.ev cx x) k
  | .nilCheck x => (match st.ev cx x with | .ptr s o => k (.ptr s o) [] | .rptr s z i o => k (.rptr s z i o) [] | .d (.ptr cs) => k (.d (.ptr cs)) [] | .fn f a b => k (.fn f a b) [] | .d (.fn f a b) => k (.d (.fn f a b)) [] | _ => False)
  | .binOp op t x y _ => (match strAdd op (st.ev cx x) (st.ev cx y) with
    | some (a, b) => a.length + b.length ≤ 9223372036854775807 ∧ k (.d (.str (a ++ b))) []
    | none => optK (binT cx op t (st.ev cx x) (st.ev cx y)) k)
  | .unOp op _ x => optK (unA op (st.ev cx x)) k
  | .convert src dst x => optK (convA cx src dst (st.ev cx x)) k
  | .makeFunc fn first caps => (match fn with | .func f => k (.fn f (first.toList.map (st.ev cx)) (caps.toList.map (st.ev cx))) [] | _ => False)
  | .slice t x lo hi mx => (match mx with | none => cutK cx t (st.ev cx x) (lo.map (st.ev cx)) (hi.map (st.ev cx)) k | some _ => False)
  | .fieldAddr s x f => optK (fieldAddrA cx s (st.ev cx x) f) k
  | .field t x f => optK (match fieldA cx t (st.ev cx x) f with | some v => normV v | none => none) k
  | .indexAddr t x i => indexAddrK cx st t (st.ev cx x) (st.ev cx i) k
  | .index t x i => indexK cx t (st.ev cx x) (st.ev cx i) k
  | .extract x i => optK (match extractA (st.ev cx x) i with | some v => normV v | none => none) k
  | .call c => callK cx st c k
  | .makeMap t r => (match d, hintOk (r.map (st.ev cx)), mapKind cx t with | some d, true, some true => k (.omap d) [(d, .kmap [])] | some d, true, some false => k (.omap d) [(d, .smap [])] | _, _, _ => False)
  | .makeSlice t l c => makeSliceK cx d t (st.ev cx l) (st.ev cx c) (sameOp l c) k
  | .lookup t x i ok => lookupK cx st t (st.ev cx x) (st.ev cx i) ok k
  | _ => False
end NQ

/-
  That what an operation must be shown is enough: operations that only compute.
-/
set_option linter.unusedSimpArgs false
set_option linter.unusedVariables false
namespace NQ
open Go Go.RowKit

section
variable {cx : Cx} {st : St} {k : KK}

theorem optK_some {o : Option AV} (h : optK o k) : ∃ v, o = some v ∧ k v [] := by
  cases o with
  | none => exact h.elim
  | some v => exact ⟨v, rfl, h⟩

/-- The frame of each proof: the operation's value. -/
theorem value_of {o : Oper} {v : AV} (s : (Operand → Value) → Sem Value) (he : ∀ ρ, execOp ρ o = (do pure (.value (← s ρ)) : Sem Next))
    (h : ∀ (E : Env) st' σ a w, st.le st' → SimAt cx E st' σ a w → ∃ z, (s a.eval).run cx.P w = .ok z w ∧ RepA w E.O (live st'.heap) σ v z) : OpOk cx o st v [] :=
  OpOk.value fun E st' σ a w hle hs => by
    obtain ⟨z, hz, hr⟩ := h E st' σ a w hle hs
    exact ⟨z, by rw [he]; simp [hz], hr⟩

theorem takeN_eq {t : TypeId} {cs : List AV} {v : AV} (h : takeN cx t cs = some v) : takeA cx t cs = some v := by
  unfold takeN at h
  split at h
  · rename_i r hr; rw [normV_eq h]; exact hr
  · cases h

theorem ok_move {o : Oper} {x : Operand} (ho : o.op = .move x ∨ o.op = .assign x) (h : optK (normV (nilFix cx o.type (st.ev cx x))) k) : ∃ v bs, OpOk cx o st v bs ∧ k v bs := by
  obtain ⟨v, hv, hk⟩ := optK_some h
  obtain rfl := normV_eq hv
  refine ⟨_, [], OpOk.value fun E st' σ a w hle hs => ?_, hk⟩
  refine ⟨a.eval x, ?_, nilFix_rep (hs.ev hle x)⟩
  rcases ho with ho | ho <;> simp [execOp, ho]

theorem ok_assign {o : Oper} {x : Operand} (ho : o.op = .assign x) (h : opK cx o.dst o.type st (.assign x) k) : ∃ v bs, OpOk cx o st v bs ∧ k v bs := by
  simp only [opK] at h
  split at h
  · exact ⟨_, [], OpOk.value fun E st' σ a w hle hs => ⟨a.eval x, by simp [execOp, ho], .undef _⟩, h⟩
  · exact ok_move (.inr ho) h

theorem ok_pick {o : Oper} {c x y : Operand} (ho : o.op = .pick c x y) (h : opK cx o.dst o.type st (.pick c x y) k) : ∃ v bs, OpOk cx o st v bs ∧ k v bs := by
  simp only [opK] at h
  split at h
  · rename_i t ht
    cases t with
    | true =>
      obtain ⟨v, hv, hk⟩ := optK_some h
      obtain rfl := normV_eq hv
      refine ⟨_, [], OpOk.value fun E st' σ a w hle hs => ?_, hk⟩
      have hc := hs.ev hle c
      rw [ht] at hc
      exact ⟨a.eval x, by simp [execOp, ho, hc.bool, asBool], hs.ev hle x⟩
    | false =>
      obtain ⟨v, hv, hk⟩ := optK_some h
      obtain rfl := normV_eq hv
      refine ⟨_, [], OpOk.value fun E st' σ a w hle hs => ?_, hk⟩
      have hc := hs.ev hle c
      rw [ht] at hc
      exact ⟨a.eval y, by simp [execOp, ho, hc.bool, asBool], hs.ev hle y⟩
  · exact h.elim

theorem ok_opt {o : Oper} {r : Option AV} (s : (Operand → Value) → Sem Value) (he : ∀ ρ, execOp ρ o = (do pure (.value (← s ρ)) : Sem Next))
    (hh : ∀ v, r = some v → ∀ (E : Env) st' σ a w, st.le st' → SimAt cx E st' σ a w → ∃ z, (s a.eval).run cx.P w = .ok z w ∧ RepA w E.O (live st'.heap) σ v z) (h : optK r k) : ∃ v bs, OpOk cx o st v bs ∧ k v bs := by
  obtain ⟨v, hv, hk⟩ := optK_some h
  exact ⟨v, [], value_of s he (hh v hv), hk⟩

theorem ok_load (hT : TyOk cx) {o : Oper} {t : TypeId} {x : Operand} (ho : o.op = .load t x) (h : loadK cx st t (st.ev cx x) k) : ∃ v bs, OpOk cx o st v bs ∧ k v bs := by
  have he : ∀ ρ, execOp ρ o = (do pure (.value (← Instr.loadAt t (ρ x))) : Sem Next) := fun ρ => by simp only [execOp, ho]
  unfold loadK at h
  split at h
  · rename_i s off hx
    split at h
    · rename_i cells hf
      refine ok_opt _ he (fun v hv E st' σ a w hle hs => ?_) h
      have hr := hs.ev hle x
      rw [hx] at hr
      obtain ⟨b', cur, tt, e1, e2, e3, e4, e5⟩ := hs.holds.blk s _ (hle.heap s _ hf)
      generalize a.eval x = u at hr
      cases hr with | ptr _ _ b hL hσ =>
        rw [hσ] at e1; cases e1
        refine takeA_load hT (takeN_eq hv) (fun j => cur.getD (off + j) Go.undef) (fun j c hj => ?_) (fun j c hj => ?_)
        · rw [List.getElem?_drop] at hj
          have hlt : off + j < cur.size := by have := (List.getElem?_eq_some_iff.1 hj).1; omega
          simp [World.cell?, e3, hlt]
        · rw [List.getElem?_drop] at hj; exact (e5 _ c hj).2
    · exact h.elim
  · rename_i s sz i off hx
    split at h
    · rename_i te sz' rows fl hf
      split at h
      · rename_i hsz
        obtain rfl : sz' = sz := Nat.eq_of_beq_eq_true hsz
        obtain ⟨row, hrow, h⟩ := h
        refine ok_opt _ he (fun v hv E st' σ a w hle hs => ?_) h
        have hr := hs.ev hle x
        rw [hx] at hr
        obtain ⟨xs, o1, o2, o3, o4, o5⟩ := hs.holds.blk s _ (hle.heap s _ hf)
        generalize a.eval x = u at hr
        cases hr with | rptr _ _ _ _ b n cap hL hσ =>
          rcases o1.2 with ⟨e1, _⟩ | ⟨g, cap', cur, e1, _, e3, e4, _, e6, e7⟩
          · rw [hσ] at e1; cases e1
          · rw [hσ] at e1; cases e1
            have hget : ∀ (j : Nat) c, ((row.drop off).map AV.d)[j]? = some c → ∃ d, c = .d d ∧ row[off + j]? = some d := by
              intro j c hj
              rw [List.getElem?_map, List.getElem?_drop] at hj
              cases hd : row[off + j]? with
              | none => rw [hd] at hj; cases hj
              | some d => rw [hd] at hj; cases hj; exact ⟨d, rfl, rfl⟩
            refine takeA_load hT (takeN_eq hv) (fun j => xs.getD (i * sz' + (off + j)) Go.undef) (fun j c hj => ?_) (fun j c hj => ?_)
            · obtain ⟨d, rfl, hd⟩ := hget j c hj
              obtain ⟨u, hu, _⟩ := o5 i row _ d hrow hd
              rw [show xs.getD (i * sz' + (off + j)) Go.undef = u by simp [List.getD, hu]]
              rw [← e7, List.getElem?_take] at hu
              split at hu
              · simp only [World.cell?, e3, Nat.add_assoc]
                simpa using hu
              · cases hu
            · obtain ⟨d, rfl, hd⟩ := hget j c hj
              obtain ⟨u, hu, hr⟩ := o5 i row _ d hrow hd
              rw [show xs.getD (i * sz' + (off + j)) Go.undef = u by simp [List.getD, hu]]
              exact .d _ _ hr
      · exact h.elim
    · rename_i te sz' rows hf
      split at h
      · rename_i hsz
        obtain rfl : sz' = sz := Nat.eq_of_beq_eq_true hsz
        obtain ⟨row, hrow, h⟩ := h
        refine ok_opt _ he (fun v hv E st' σ a w hle hs => ?_) h
        have hr := hs.ev hle x
        rw [hx] at hr
        obtain ⟨g, cur, tt, e1, e2, e3, e4, e5⟩ := hs.holds.blk s _ (hle.heap s _ hf)
        generalize a.eval x = u at hr
        cases hr with | rptr _ _ _ _ b n cap hL hσ =>
          rw [hσ] at e1; cases e1
          refine takeA_load hT (takeN_eq hv) (fun j => cur.getD (i * sz' + (off + j)) Go.undef) (fun j c hj => ?_) (fun j c hj => ?_)
          · rw [List.getElem?_drop] at hj
            have hlt := (e5 i row _ c hrow hj).1.2
            simp [World.cell?, e3, Nat.add_assoc, hlt]
          · rw [List.getElem?_drop] at hj
            exact (e5 i row _ c hrow hj).2
      · exact h.elim
    · exact h.elim
  · rename_i cells hx
    refine ok_opt _ he (fun v hv E st' σ a w hle hs => ?_) h
    have hr := hs.ev hle x
    rw [hx] at hr
    generalize a.eval x = u at hr
    cases hr with | d _ _ hr => cases hr with | ptr _ B off us hO hB hone h1 h2 =>
      refine takeA_load hT (takeN_eq hv) us (fun j c hj => ?_) (fun j c hj => ?_)
      · rw [List.getElem?_map] at hj
        cases hd : cells[j]? with
        | none => rw [hd] at hj; cases hj
        | some d => exact h1 j d hd
      · rw [List.getElem?_map] at hj
        cases hd : cells[j]? with
        | none => rw [hd] at hj; cases hj
        | some d => rw [hd] at hj; cases hj; exact .d _ _ (h2 j d hd)
  · exact h.elim

theorem sliceElem_ok {t e : TypeId} {ei : TI} (h : sliceElem cx t = some (e, ei)) : ∃ ti, cx.ty t = some ti ∧ ti.kind = .slice e ∧ cx.ty e = some ei := by
  unfold sliceElem at h
  split at h
  · rename_i ht
    split at h
    · rename_i he; cases h; exact ⟨_, ht, rfl, he⟩
    · cases h
  · cases h
theorem arrayElem_ok {t : TypeId} {n : Nat} {ei : TI} (h : arrayElem cx t = some (n, ei)) : ∃ ti e, cx.ty t = some ti ∧ ti.kind = .array n e ∧ cx.ty e = some ei := by
  unfold arrayElem at h
  split at h
  · rename_i ht
    split at h
    · rename_i he; cases h; exact ⟨_, _, ht, rfl, he⟩
    · cases h
  · cases h
theorem isStr_ok {t : TypeId} (h : isStr cx t = true) : ∃ ti, cx.ty t = some ti ∧ ti.kind = .str := by
  unfold isStr at h
  split at h
  · rename_i ht; exact ⟨_, ht, rfl⟩
  · cases h

theorem ok_indexAddr (hT : TyOk cx) {o : Oper} {t : TypeId} {x i : Operand} (ho : o.op = .indexAddr t x i) (h : indexAddrK cx st t (st.ev cx x) (st.ev cx i) k) : ∃ v bs, OpOk cx o st v bs ∧ k v bs := by
  have he : ∀ ρ, execOp ρ o = (do pure (.value (← Instr.indexAt t (ρ x) (ρ i))) : Sem Next) := fun ρ => by simp only [execOp, ho]
  unfold indexAddrK at h
  split at h
  · rename_i ki n hi
    split at h
    · rename_i e ei hse
      obtain ⟨ti, ht, hk, hei⟩ := sliceElem_ok hse
      split at h
      · rename_i sz rows hx
        split at h
        · rename_i hsz
          obtain rfl : sz = ei.size := Nat.eq_of_beq_eq_true hsz
          obtain ⟨h0, row, hrow, hkk⟩ := h
          refine ⟨_, [], value_of _ he fun E st' σ a w hle hs => ?_, hkk⟩
          have hr := hs.ev hle x
          have hn := hs.ev hle i
          rw [hx] at hr
          rw [hi] at hn
          rw [hn.int]
          exact indexAddr_dslice hT ht hk hei hr h0 hrow
        · exact h.elim
      · rename_i s hx
        split at h
        · rename_i te sz rows fl hf
          split at h
          · rename_i hsz
            obtain rfl : sz = ei.size := Nat.eq_of_beq_eq_true hsz
            obtain ⟨h0, hlt, hkk⟩ := h
            refine ⟨_, [], value_of _ he fun E st' σ a w hle hs => ?_, hkk⟩
            have hr := hs.ev hle x
            have hn := hs.ev hle i
            rw [hx] at hr
            rw [hi] at hn
            rw [hn.int]
            obtain ⟨xs, o1, _⟩ := hs.holds.blk s _ (hle.heap s _ hf)
            exact indexAddr_own (F := E.F) hT ht hk hei hr o1 h0 hlt
          · exact h.elim
        · rename_i te sz rows hf
          split at h
          · rename_i hsz
            obtain rfl : sz = ei.size := Nat.eq_of_beq_eq_true hsz
            obtain ⟨h0, hlt, hkk⟩ := h
            refine ⟨_, [], value_of _ he fun E st' σ a w hle hs => ?_, hkk⟩
            have hr := hs.ev hle x
            have hn := hs.ev hle i
            rw [hx] at hr
            rw [hi] at hn
            rw [hn.int]
            obtain ⟨g, cur, tt, e1, _⟩ := hs.holds.blk s _ (hle.heap s _ hf)
            obtain ⟨_, _, _, _, t2, t3, _⟩ := hT _ _ ht
            rw [hk] at t3
            obtain rfl := kindOf_slice t3
            obtain ⟨_, r2⟩ := isAgg_run (w := w) hT hei
            generalize a.eval x = u at hr
            cases hr with | own _ hL =>
              have hlt' : n < rows.length := by omega
              refine ⟨.pointer (some ⟨g, n.toNat * ei.size + 0, none⟩), ?_, .rptr s _ _ _ g _ _ hL e1⟩
              rw [e1]
              simp [Instr.indexAt, asIntOf, run_underlying t2, h0, hlt', r2, addr_add]
          · exact h.elim
        · exact h.elim
      · exact h.elim
    · split at h
      · rename_i m ei hae
        obtain ⟨ti, e, ht, hk, hei⟩ := arrayElem_ok hae
        obtain ⟨h0, h1, h⟩ := h
        refine ok_opt _ he (fun v hv E st' σ a w hle hs => ?_) h
        have hn := hs.ev hle i
        rw [hi] at hn
        rw [hn.int]
        exact indexAddr_array hT ht hk hei (hs.ev hle x) h0 h1 hv
      · exact h.elim
  · exact h.elim

theorem ok_index (hT : TyOk cx) {o : Oper} {t : TypeId} {x i : Operand} (ho : o.op = .index t x i) (h : indexK cx t (st.ev cx x) (st.ev cx i) k) : ∃ v bs, OpOk cx o st v bs ∧ k v bs := by
  have he : ∀ ρ, execOp ρ o = (do pure (.value (← Instr.index t (ρ x) (ρ i))) : Sem Next) := fun ρ => by simp only [execOp, ho]
  unfold indexK at h
  split at h
  · rename_i s ki n hx hi hs
    obtain ⟨ti, ht, hk⟩ := isStr_ok hs
    obtain ⟨h0, c, hc, hkk⟩ := h
    refine ⟨_, [], value_of _ he fun E st' σ a w hle hs => ?_, hkk⟩
    have hr := hs.ev hle x
    have hn := hs.ev hle i
    rw [hx] at hr
    rw [hi] at hn
    rw [hn.int]
    exact index_str hT ht hk hr h0 hc
  · exact h.elim

theorem bnd_ev {E : Env} {st' : St} {σ : Nat → Value} {a : Act} {w : World} (hle : st.le st') (hs : SimAt cx E st' σ a w) (lo : Option Operand) {dflt : Nat} {l : Int} (h : bnd dflt (lo.map (st.ev cx)) = some l) :
    ((lo.map a.eval) = none ∧ l = dflt) ∨ ∃ k, lo.map a.eval = some (.int k l) :=
  bnd_run (fun x hx => by cases lo with
    | none => cases hx
    | some y => cases hx; exact ⟨_, rfl, hs.ev hle y⟩) (fun hn => by cases lo with
    | none => rfl
    | some y => cases hn) h

theorem ok_slice (hT : TyOk cx) {o : Oper} {t : TypeId} {x : Operand} {lo hi : Option Operand} (ho : o.op = .slice t x lo hi none) (h : cutK cx t (st.ev cx x) (lo.map (st.ev cx)) (hi.map (st.ev cx)) k) : ∃ v bs, OpOk cx o st v bs ∧ k v bs := by
  have he : ∀ ρ, execOp ρ o = (do pure (.value (← Instr.sliceAt t (ρ x) (lo.map ρ) (hi.map ρ) none)) : Sem Next) := fun ρ => by simp only [execOp, ho, Option.map_none]
  unfold cutK at h
  split at h
  · rename_i s hx
    split at h
    · rename_i l hh hs hl hr
      obtain ⟨ti, ht, hk⟩ := isStr_ok hs
      obtain ⟨h0, h1, h2, hkk⟩ := h
      refine ⟨_, [], value_of _ he fun E st' σ a w hle hs => ?_, hkk⟩
      have hr' := hs.ev hle x
      rw [hx] at hr'
      exact cut_str hT ht hk hr' (bnd_ev hle hs lo hl) (bnd_ev hle hs hi hr) h0 h1 h2
    · exact h.elim
  · rename_i sz rows hx
    split at h
    · rename_i e ei l hh hs hl hr
      obtain ⟨ti, ht, hk, hei⟩ := sliceElem_ok hs
      split at h
      · rename_i hsz
        obtain rfl : sz = ei.size := Nat.eq_of_beq_eq_true hsz
        obtain ⟨h0, h1, h2, hkk⟩ := h
        refine ⟨_, [], value_of _ he fun E st' σ a w hle hs => ?_, hkk⟩
        have hr' := hs.ev hle x
        rw [hx] at hr'
        exact cut_dslice hT ht hk hei hr' (bnd_ev hle hs lo hl) (bnd_ev hle hs hi hr) h0 h1 h2
      · exact h.elim
    · exact h.elim
  · exact h.elim
end
end NQ

/-
  That what an operation must be shown is enough: new blocks, structs, calls.
-/
set_option linter.unusedSimpArgs false
set_option linter.unusedVariables false
namespace NQ
open Go Go.RowKit

section
variable {cx : Cx} {st : St} {k : KK}

theorem ok_nilCheck {o : Oper} {x : Operand} (ho : o.op = .nilCheck x) (h : opK cx o.dst o.type st (.nilCheck x) k) : ∃ v bs, OpOk cx o st v bs ∧ k v bs := by
  simp only [opK] at h
  split at h
  · rename_i hx
    refine ⟨_, [], OpOk.value fun E st' σ a w hle hs => ?_, h⟩
    have hr := hs.ev hle x; rw [hx] at hr
    refine ⟨a.eval x, ?_, hr⟩
    generalize hu : a.eval x = u at hr
    cases hr
    simp [execOp, ho, hu]
  · rename_i hx
    refine ⟨_, [], OpOk.value fun E st' σ a w hle hs => ?_, h⟩
    have hr := hs.ev hle x; rw [hx] at hr
    refine ⟨a.eval x, ?_, hr⟩
    generalize hu : a.eval x = u at hr
    cases hr
    simp [execOp, ho, hu]
  · rename_i hx
    refine ⟨_, [], OpOk.value fun E st' σ a w hle hs => ?_, h⟩
    have hr := hs.ev hle x; rw [hx] at hr
    refine ⟨a.eval x, ?_, hr⟩
    generalize hu : a.eval x = u at hr
    cases hr with | d _ _ hr => cases hr; simp [execOp, ho, hu]
  · rename_i hx
    refine ⟨_, [], OpOk.value fun E st' σ a w hle hs => ?_, h⟩
    have hr := hs.ev hle x; rw [hx] at hr
    refine ⟨a.eval x, ?_, hr⟩
    generalize hu : a.eval x = u at hr
    cases hr
    simp [execOp, ho, hu]
  · rename_i hx
    refine ⟨_, [], OpOk.value fun E st' σ a w hle hs => ?_, h⟩
    have hr := hs.ev hle x; rw [hx] at hr
    refine ⟨a.eval x, ?_, hr⟩
    generalize hu : a.eval x = u at hr
    cases hr with | d _ _ hr => cases hr; simp [execOp, ho, hu]
  · exact h.elim

theorem zeroCell_rep {w : World} {O L : Nat → Prop} {σ : Nat → Value} {c : AV} {v : Value} (h : zeroCellOk c v) : (c.one = true ∨ c = .undef) ∧ RepA w O L σ c v := by
  unfold zeroCellOk at h
  split at h <;> first | exact h.elim | skip
  · subst h; exact ⟨.inl rfl, .mkInt _ _⟩
  · subst h; exact ⟨.inl rfl, .mkBool _⟩
  · subst h; exact ⟨.inl rfl, .d _ _ (.str _ _ (by simp))⟩
  · subst h; exact ⟨.inl rfl, .nil _⟩
  · exact ⟨.inr rfl, .undef _⟩

theorem box_ok {w : World} {F O L L' : Nat → Prop} {σ σ' : Nat → Value} {d : Nat} {cs : List AV} {vs : Array Value} {t : TypeId} (hs : ∀ s, L s → L' s ∧ σ' s = σ s)
    (hk : Keeps w (w.alloc (.cells vs t)) (Own O L σ) (Own O L' σ')) (hσ : σ' d = .pointer (some ⟨w.heap.size, 0, none⟩)) (hF : F w.heap.size) (hl : vs.size = cs.length) (h : ∀ j c, cs[j]? = some c → (c.one = true ∨ c = .undef) ∧ RepA w O L σ c (vs.getD j Go.undef)) :
    BlkOk (w.alloc (.cells vs t)) F O L' σ' d (.box cs) :=
  ⟨w.heap.size, vs, t, hσ, hF, heap_alloc_new w _, hl, fun j c hc => ⟨(h j c hc).1, (h j c hc).2.mono hk hs⟩⟩

theorem ok_alloc (hT : TyOk cx) {o : Oper} {e : TypeId} (ho : o.op = .alloc e) (h : opK cx o.dst o.type st (.alloc e) k) : ∃ v bs, OpOk cx o st v bs ∧ k v bs := by
  simp only [opK] at h
  split at h
  · rename_i d i hd hi
    refine ⟨_, _, OpOk.new (by rw [ho]; rfl) (by assumption) fun E st' σ a w hle hs => ?_, h⟩
    obtain ⟨info, desc, z, i1, i2, i3, i4, i5, i6, i7, i8, i9, i10⟩ := hT _ _ hi
    refine ⟨w.alloc (.cells z.cells e), .pointer (some ⟨w.heap.size, 0, none⟩), .pointer (some ⟨w.heap.size, 0, none⟩), ?_, below_new _ _, fun g hg => by cases hg; exact Nat.le_refl _, fun σ' e1 hF hk hss hl => ⟨?_, ?_⟩⟩
    · simp [execOp, ho, Instr.alloc, zeroValue, typeInfo, i1, i6, newVar, newRow, newObj, Sem.run]
    · exact box_ok hss hk e1 (hF _ (Nat.le_refl _)) i7 fun j c hc => zeroCell_rep (i9 j c hc)
    · exact .ptr _ _ _ hl e1
  · exact h.elim

theorem ok_box (hT : TyOk cx) {o : Oper} {e : TypeId} {x : Operand} (ho : o.op = .box e x) (h : opK cx o.dst o.type st (.box e x) k) : ∃ v bs, OpOk cx o st v bs ∧ k v bs := by
  simp only [opK] at h
  split at h
  · rename_i d cs0 hd hc
    split at h
    · rename_i cs hn
      obtain rfl := normL_eq hn
      split at h
      · rename_i hone
        refine ⟨_, _, OpOk.new (by rw [ho]; rfl) (by assumption) fun E st' σ a w hle hs => ?_, h⟩
        obtain ⟨k1, k2⟩ := cellsOf_rep hc hs.one (hs.ev hle x)
        refine ⟨w.alloc (.cells (a.eval x).cells e), .pointer (some ⟨w.heap.size, 0, none⟩), .pointer (some ⟨w.heap.size, 0, none⟩), ?_, below_new _ _, fun g hg => by cases hg; exact Nat.le_refl _, fun σ' e1 hF hk hss hl => ⟨?_, ?_⟩⟩
        · simp [execOp, ho, Instr.box, newVar, newRow, newObj, Sem.run]
        · exact box_ok hss hk e1 (hF _ (Nat.le_refl _)) k1 fun j c hc => ⟨.inl (List.all_eq_true.1 hone c (List.mem_of_getElem? hc)), k2 j c hc⟩
        · exact .ptr _ _ _ hl e1
      · exact h.elim
    · exact h.elim
  · exact h.elim

theorem mapM_places (hT : TyOk cx) (w : World) (g : List Field) (h : ∀ fld ∈ g, (cx.ty fld.type).isSome = true) :
    (g.mapM (m := Sem) fun f => Prod.mk f.offset <$> Go.sizeOf f.type).run cx.P w = .ok (g.map fun f => (f.offset, match cx.ty f.type with | some i => i.size | none => 0)) w := by
  induction g with
  | nil => simp [List.mapM_nil]
  | cons f t ih =>
    have hf := h f (by simp)
    cases hi : cx.ty f.type with
    | none => rw [hi] at hf; cases hf
    | some i =>
      have r2 := (isAgg_run (w := w) hT hi).2
      have ih := ih fun x hx => h x (by simp [hx])
      simp [List.mapM_cons, r2, ih, hi]

theorem ok_build (hT : TyOk cx) {o : Oper} {t : TypeId} {parts : Array (Nat × Operand)} (ho : o.op = .build t parts) (h : buildK cx st t parts.toList k) : ∃ v bs, OpOk cx o st v bs ∧ k v bs := by
  unfold buildK at h
  split at h
  · rename_i sz by' fs zero ht
    split at h
    · rename_i cs0 hf
      split at h
      · rename_i cs hn hall
        obtain rfl := normL_eq hn
        refine ⟨_, [], OpOk.value fun E st' σ a w hle hs => ?_, h⟩
        obtain ⟨info, desc, z, i1, i2, i3, i4, i5, i6, i7, i8, i9, i10⟩ := hT _ _ ht
        obtain ⟨g, rfl, rfl⟩ := kindOf_struct i3
        have hmap := mapM_places hT w g.toList (fun fld hf => List.all_eq_true.1 hall (fld.offset, fld.type) (List.mem_map.2 ⟨fld, hf, rfl⟩))
        have hmap' : (g.mapM (m := Sem) fun f => Prod.mk f.offset <$> Go.sizeOf f.type).run cx.P w = .ok (g.toList.map fun f => (f.offset, match cx.ty f.type with | some i => i.size | none => 0)).toArray w := by
          rw [Array.mapM_eq_mapM_toList]
          simp [hmap]
        obtain ⟨vs', f1, f2, f3⟩ := fillA_run (w := w) (O := E.O) (L := live st'.heap) (σ := σ) hT hs.one (places := (g.toList.map fun f => (f.offset, match cx.ty f.type with | some i => i.size | none => 0)).toArray)
          (fun i fld fi hg hfi => by
            have : g.toList[i]? = some fld := by rw [Array.getElem?_toList]; exact hg
            simp [hg, hfi])
          _ (parts.toList.map fun p => (p.1, a.eval p.2)) _ _ z.cells hf (by simp) (fun j p hj => by
            rw [List.getElem?_map] at hj
            cases hp : parts.toList[j]? with
            | none => rw [hp] at hj; cases hj
            | some q =>
              rw [hp] at hj; cases hj
              refine ⟨a.eval q.2, by rw [List.getElem?_map, hp]; rfl, ?_⟩
              dsimp only [partA]
              split
              · exact nilFix_rep (hs.ev hle q.2)
              · exact hs.ev hle q.2) i7 (fun j c hc => (zeroCell_rep (i9 j c hc)).2)
        refine ⟨.agg vs', ?_, .agg _ _ f2 f3⟩
        have hpm : (parts.map fun (x : Nat × Operand) => (x.1, a.eval x.2)).toList = parts.toList.map fun p => (p.1, a.eval p.2) := by simp
        simp only [List.getElem?_toArray, List.getElem?_map, Array.getElem?_toList] at f1
        simp only [execOp, ho, Instr.build]
        simp [zeroValue, typeInfo, i1, i6, run_underlying i2, hmap', hpm, f1]
      · exact h.elim
    · exact h.elim
  · exact h.elim

theorem ok_makeFunc {o : Oper} {fn : Go.Fn} {first caps : Array Operand} (ho : o.op = .makeFunc fn first caps) (h : opK cx o.dst o.type st (.makeFunc fn first caps) k) : ∃ v bs, OpOk cx o st v bs ∧ k v bs := by
  simp only [opK] at h
  split at h
  · rename_i f
    refine ⟨_, [], OpOk.value fun E st' σ a w hle hs => ?_, h⟩
    have hg : ∀ (xs : Array Operand) (j : Nat) c, (xs.toList.map (st.ev cx))[j]? = some c → RepA w E.O (live st'.heap) σ c ((xs.map a.eval).getD j Go.undef) := fun xs j c hj => by
      rw [List.getElem?_map] at hj
      cases hx : xs.toList[j]? with
      | none => rw [hx] at hj; cases hj
      | some x =>
        rw [hx] at hj; cases hj
        have : (xs.map a.eval).getD j Go.undef = a.eval x := by rw [Array.getElem?_toList] at hx; simp [hx]
        rw [this]; exact hs.ev hle x
    exact ⟨.func (.func f) (first.map a.eval) (caps.map a.eval), by simp [execOp, ho, Instr.makeFunc], .fn _ _ _ _ _ (by simp) (by simp) (hg first) (hg caps)⟩
  · exact h.elim

theorem ok_len (hT : TyOk cx) {o : Oper} {x : Operand} {t : TypeId} {c : Call} (ho : o.op = .call c) (hc : c.callee = .builtin .len) (ha : c.args.toList = [x]) (ht : c.argTypes.toList = [t]) (h : lenK cx st t (st.ev cx x) k) : ∃ v bs, OpOk cx o st v bs ∧ k v bs := by
  have ha' : c.args = #[x] := by rw [← Array.toList_inj]; exact ha
  have ht' : c.argTypes = #[t] := by rw [← Array.toList_inj]; exact ht
  have he : ∀ ρ, execOp ρ o = (do pure (.value (← Builtin.len_ #[t] o.type #[ρ x])) : Sem Next) := fun ρ => by
    simp [execOp, ho, resolve, hc, ha', ht', invoke, builtin]
  unfold lenK at h
  split at h
  · rename_i s hx
    split at h
    · rename_i hs
      obtain ⟨ti, h1, h2⟩ := isStr_ok hs
      refine ⟨_, [], value_of _ he fun E st' σ a w hle hs => ?_, h⟩
      have hr := hs.ev hle x; rw [hx] at hr
      obtain ⟨b, hb, hbl⟩ := hr.str
      obtain ⟨_, _, _, _, t2, t3, _⟩ := hT _ _ h1
      rw [h2] at t3; obtain rfl := kindOf_str t3
      rw [hb]
      refine ⟨.int .i64 b.size, by simp [Builtin.len_, run_underlying t2, goInt], ?_⟩
      rw [← hbl, Array.length_toList]; exact .mkInt _ _
    · exact h.elim
  · rename_i sz rows hx
    split at h
    · rename_i e hs
      obtain ⟨ti, h1, h2, _⟩ := sliceElem_ok hs
      refine ⟨_, [], value_of _ he fun E st' σ a w hle hs => ?_, h⟩
      have hr := hs.ev hle x; rw [hx] at hr
      obtain ⟨aa, cap, hv, _⟩ := hr.dslice
      obtain ⟨_, _, _, _, t2, t3, _⟩ := hT _ _ h1
      rw [h2] at t3; obtain rfl := kindOf_slice t3
      rw [hv]
      exact ⟨.int .i64 rows.length, by simp [Builtin.len_, run_underlying t2, goInt], .mkInt _ _⟩
    · exact h.elim
  · rename_i sz hx
    split at h
    · rename_i e hs
      obtain ⟨ti, h1, h2, _⟩ := sliceElem_ok hs
      refine ⟨_, [], value_of _ he fun E st' σ a w hle hs => ?_, h⟩
      have hr := hs.ev hle x; rw [hx] at hr
      obtain ⟨_, _, _, _, t2, t3, _⟩ := hT _ _ h1
      rw [h2] at t3; obtain rfl := kindOf_slice t3
      generalize a.eval x = u at hr
      cases hr
      exact ⟨.int .i64 0, by simp [Builtin.len_, run_underlying t2, goInt], .mkInt _ _⟩
    · exact h.elim
  · rename_i s hx
    split at h
    · rename_i e te sz rows fl hs hf
      obtain ⟨ti, h1, h2, _⟩ := sliceElem_ok hs
      refine ⟨_, [], value_of _ he fun E st' σ a w hle hs => ?_, h⟩
      have hr := hs.ev hle x; rw [hx] at hr
      obtain ⟨_, _, _, _, t2, t3, _⟩ := hT _ _ h1
      rw [h2] at t3; obtain rfl := kindOf_slice t3
      obtain ⟨xs, o1, _⟩ := hs.holds.blk s _ (hle.heap s _ hf)
      generalize a.eval x = u at hr
      cases hr with | own _ hL =>
        rcases o1.2 with ⟨e1, e2⟩ | ⟨g, cap, cur, e1, _⟩
        · rw [e1, e2]; exact ⟨.int .i64 0, by simp [Builtin.len_, run_underlying t2, goInt], .mkInt _ _⟩
        · rw [e1]; exact ⟨.int .i64 rows.length, by simp [Builtin.len_, run_underlying t2, goInt], .mkInt _ _⟩
    · rename_i e te sz rows hs hf
      obtain ⟨ti, h1, h2, _⟩ := sliceElem_ok hs
      refine ⟨_, [], value_of _ he fun E st' σ a w hle hs => ?_, h⟩
      have hr := hs.ev hle x; rw [hx] at hr
      obtain ⟨_, _, _, _, t2, t3, _⟩ := hT _ _ h1
      rw [h2] at t3; obtain rfl := kindOf_slice t3
      obtain ⟨g, cur, tt, e1, _⟩ := hs.holds.blk s _ (hle.heap s _ hf)
      generalize a.eval x = u at hr
      cases hr with | own _ hL =>
        rw [e1]; exact ⟨.int .i64 rows.length, by simp [Builtin.len_, run_underlying t2, goInt], .mkInt _ _⟩
    · exact h.elim
  · exact h.elim
end
end NQ
