/-
  Texts of the proof of the law LookupNames, merged in build order.
-/
import Derived.Test.YtmgacjioflnamaaGreatDoorLrbM
import Derived.Test.YtmgacjioflnamaaGreatDoorMLcv
import Derived.Test.YtmgacjioflnamaaGreatDoorMVa
import Derived.Test.YtmgacjioflnamaaGreatDoorMCa
/-
  Reference 07 on plain data: Refer, Answer, Same.
-/
set_option linter.unusedSimpArgs false
set_option linter.unusedVariables false
set_option maxRecDepth 100000
namespace NP
open NQ Go
def hostsR (l : List Signed) : List Datum := match l[0]? with | some s => s.set.data | none => []
def rfold (z : Zone) (cut : Bs) (l : List Signed) (h : List Datum) : List Signed := h.foldl (fun l d => if underN d.text cut = true then addR l z ⟨d.text, 1⟩ else l) l
def rl0 (z : Zone) (cut : Bs) : List Signed := addR [] z ⟨cut, 2⟩
def rl1 (z : Zone) (cut : Bs) : List Signed := addR (rl0 z cut) z ⟨cut, 6⟩
def rl2 (z : Zone) (cut : Bs) : List Signed := if (((rl1 z cut).length : Int) == ((rl0 z cut).length : Int)) = true then addR (rl1 z cut) z ⟨cut, 8⟩ else rl1 z cut
def rreferA (z : Zone) (cut : Bs) : Ans := ⟨4, rfold z cut (rl2 z cut) (hostsR (rl0 z cut)), cut⟩
theorem rfold_snoc (z : Zone) (cut : Bs) (l : List Signed) (h : List Datum) (d : Datum) : rfold z cut l (h ++ [d]) = if underN d.text cut = true then addR (rfold z cut l h) z ⟨d.text, 1⟩ else rfold z cut l h := by
  unfold rfold; rw [List.foldl_append]; rfl
theorem rfold_len (z : Zone) (cut : Bs) : ∀ (h : List Datum) (l : List Signed), (rfold z cut l h).length ≤ l.length + h.length
  | [], l => by simp [rfold]
  | d :: h, l => by
    have e : rfold z cut l (d :: h) = rfold z cut (if underN d.text cut = true then addR l z ⟨d.text, 1⟩ else l) h := rfl
    rw [e]
    have := rfold_len z cut h (if underN d.text cut = true then addR l z ⟨d.text, 1⟩ else l)
    have h2 := addR_len l z ⟨d.text, 1⟩
    rw [List.length_cons]
    split at this <;> rename_i hc <;> simp only [hc, if_true, if_false, Bool.false_eq_true] <;> omega
theorem setB_serv {s : RSet} (h : setB s = true) (ht : s.type = 2) : ∀ d ∈ s.data, validN d.text = true := fun d hd => by
  unfold setB at h
  simp only [Bool.and_eq_true, List.all_eq_true, List.mem_range] at h
  obtain ⟨i, hi⟩ := List.getElem?_of_mem hd
  have hlt := (List.getElem?_eq_some_iff.1 hi).1
  have := h.2 i hlt
  obtain ⟨p, hp⟩ : ∃ p, s.data[i - 1]? = some p := ⟨_, List.getElem?_eq_getElem (by omega)⟩
  rw [datAt_eq hi hp, ht] at this
  have hr : ruleOf 2 = ⟨1, 0, 0, 0, 0, false, false, false⟩ := rfl
  rw [hr] at this
  simp only [datBad, validDatum, validText, Bool.not_eq_true', Bool.or_eq_false_iff, Bool.not_eq_false', Bool.and_eq_true, if_true] at this
  exact this.1.2.1
theorem serv_ok {z : Zone} (ho : Ordered z) (hf : fewB z = true) : ∀ s ∈ z.sets, s.set.data.length ≤ 900 ∧ (s.set.type = 2 → ∀ d ∈ s.set.data, validN d.text = true) := fun s hs =>
  ⟨by have := ((fewB_facts hf).2 s hs).1; omega, fun ht => setB_serv (ho.set s hs) ht⟩
theorem cutOf_cut {z : Zone} {n : Bs} (ho : Ordered z) (h : cutOfR z n ≠ []) : validN (cutOfR z n) = true ∧ hasS z.sets ⟨cutOfR z n, 2⟩ = true := by
  unfold cutOfR at h ⊢
  cases hf : (cutsL z.apex z.sets).find? fun c => underN n c with
  | none => rw [hf] at h; exact absurd rfl h
  | some c =>
    have hm := List.mem_of_find?_eq_some hf
    obtain ⟨_, _, h3, _, h5⟩ := cut_ne ho hm
    exact ⟨h3, h5⟩
theorem has_exists {z : Zone} {q : Quest} (h : hasS z.sets q = true) : existsR z q.name = true := by
  obtain ⟨s, hs, hp⟩ := has_iff.1 h
  have : s.set.name = q.name := congrArg Prod.fst hp
  exact List.any_eq_true.2 ⟨s, hs, by rw [this]; exact under_self _⟩
theorem coverR_len (l : List Signed) (z : Zone) (n : Bs) : (coverR l z n).length ≤ l.length + 1 := by
  unfold coverR; split
  · exact addR_len _ _ _
  · omega
theorem closest_valid {z : Zone} {n : Bs} (hn : validN n = true) : validN (closestR z n) = true := by
  unfold closestR
  generalize (labs n).length + 1 = f
  induction f generalizing n with
  | zero => exact hn
  | succ f ih =>
    rw [clGo]
    split
    · exact hn
    · exact ih (parent_valid hn)
theorem cut_ne_of {c : Bs} (h : (!(c == [])) = true) : c ≠ [] := by intro e; rw [e] at h; cases h
theorem addR_nil {z : Zone} {q : Quest} (h : hasS z.sets q = true) : ∃ s, s ∈ z.sets ∧ s.place = q.place ∧ addR [] z q = [s] := by
  obtain ⟨k, s, h1, h2, h3⟩ := at_is h
  refine ⟨s, List.mem_of_getElem? h2, h3, ?_⟩
  unfold addR
  rw [h1, if_neg (by simp), if_neg (by simp [hasS])]
  simp [h2]
theorem addR_none {z : Zone} {q : Quest} (h : hasS z.sets q = false) : addR [] z q = [] := by
  unfold addR
  rw [atI_neg, h]; rfl
def specialQ (q : Quest) : Bool := q.type == 6 || q.type == 8
def rAnsR (z : Zone) (q : Quest) : Ans × Int :=
  if (!validZ z || !questB q) = true then (ans0, 1) else if (!underN q.name z.apex) = true then (⟨7, [], []⟩, 0)
  else if (!(cutOfR z q.name == []) && (!(cutOfR z q.name == q.name) || !specialQ q)) = true then (rreferA z (cutOfR z q.name), 0)
  else if decide (((addR [] z q).length : Int) > 0) = true then (⟨1, addR [] z q, []⟩, 0)
  else if (decide (((addR [] z ⟨q.name, 3⟩).length : Int) > 0) && (q.type != 8)) = true then (⟨3, addR [] z ⟨q.name, 3⟩, []⟩, 0)
  else if existsR z q.name = true then (⟨5, coverR (addR [] z ⟨z.apex, 4⟩) z q.name, []⟩, 0)
  else if (!((joinR ([42] :: labs (closestR z q.name))).2 == 0)) = true then (⟨6, coverR (addR [] z ⟨z.apex, 4⟩) z q.name, []⟩, 0)
  else let w := (joinR ([42] :: labs (closestR z q.name))).1
  if decide (((addR [] z ⟨w, q.type⟩).length : Int) > 0) = true then (⟨2, coverR (addR [] z ⟨w, q.type⟩) z q.name, []⟩, 0)
  else if (decide (((addR [] z ⟨w, 3⟩).length : Int) > 0) && (q.type != 8)) = true then (⟨3, coverR (addR [] z ⟨w, 3⟩) z q.name, []⟩, 0)
  else if existsR z w = true then (⟨5, coverR (coverR (addR [] z ⟨z.apex, 4⟩) z q.name) z w, []⟩, 0)
  else (⟨6, coverR (coverR (addR [] z ⟨z.apex, 4⟩) z q.name) z w, []⟩, 0)
end NP
namespace Go.Proofs.YtmgacjioflnamaaGreatDoor
open NQ Go NP Go.RowKit

theorem rrefer_fn (z : Zone) (cut : Bs) (hz : z.sets.length ≤ 10000) (hc : validN cut = true) (hcut : hasS z.sets ⟨cut, 2⟩ = true) (hd : ∀ s ∈ z.sets, s.set.data.length ≤ 900 ∧ (s.set.type = 2 → ∀ d ∈ s.set.data, validN d.text = true)) :
    NQ.Fn cx 63 [.agg (zoneD z), .str cut] (.agg ((ansD (rreferA z cut)).map .d)) [] := by
  show NQ.Fn cxR _ _ _ _
  refine fn_of_vcz (fun | 11 => [66666] | _ => []) tyR mixedR Tryz.func63 (by kernel_rfl) rfl (Nat.le_of_ble_eq_true rfl) ?_
  conv => whnf
  have addK : ∀ (l : List Signed) (fl : Bool) (n : Bs) (t : Int), l.length ≤ 100000 → FnR cxR 64 true 41 5 (l.map signedD) fl [.agg (zoneD z), .str n, .int .i64 t] ((addR l z ⟨n, t⟩).map signedD) := fun l fl n t hl => fnR_cx (cx := cx) (cx' := cxR) rfl rfl (add_fnr l fl z n t hl (by omega))
  obtain ⟨s0, hs0, hp0, e0⟩ := addR_nil hcut
  have hr0 : rl0 z cut = [s0] := e0
  have hdat := (hd s0 hs0).1
  have hdn := (hd s0 hs0).2 (by have := congrArg Prod.snd hp0; exact this)
  refine ⟨_, addK [] false cut 2 (by simp), ?_⟩
  conv => whnf
  rw [e0]
  refine ⟨by decide, by simp, ?_⟩
  conv => whnf
  refine ⟨_, rfl, ?_⟩
  conv => whnf
  refine ⟨_, addK [s0] _ cut 6 (by simp), ?_⟩
  conv => whnf
  have hr1 : rl1 z cut = addR [s0] z ⟨cut, 6⟩ := by unfold rl1; rw [hr0]
  have hl1 := addR_len [s0] z ⟨cut, 6⟩
  have hl2 := addR_len (addR [s0] z ⟨cut, 6⟩) z ⟨cut, 8⟩
  have hlist : (((addR [s0] z ⟨cut, 6⟩).map signedD).length : Int) = ((rl1 z cut).length : Int) := by rw [List.length_map, hr1]
  have hlist0 : (([s0].map signedD).length : Int) = ((rl0 z cut).length : Int) := by rw [List.length_map, hr0]
  rw [hlist, hlist0]
  have hho : hostsR (rl0 z cut) = s0.set.data := by unfold hostsR; rw [hr0]; rfl
  have h2len : (rl2 z cut).length ≤ 3 := by
    unfold rl2; rw [hr1]
    have h1' : [s0].length = 1 := rfl
    split <;> omega
  refine bcase_intro (fun heq => ?_) (fun heq => ?_) <;> (rw [heq]; conv => whnf)
  · have hr2 : rl2 z cut = addR (addR [s0] z ⟨cut, 6⟩) z ⟨cut, 8⟩ := by unfold rl2; rw [if_pos heq, hr1]
    refine ⟨_, addK (addR [s0] z ⟨cut, 6⟩) _ cut 8 (by simp at hl1; omega), ?_⟩
    conv => whnf
    (refine ⟨Nat, fun k => ⟨[(1, .d (.str cut)), (2, .ptr 2 0), (4, .ptr 4 0), (5, .own 11), (6, .d (.slice 3 (s0.set.data.map datumD))), (8, .d (.int .i64 k))], [(2, .box ((zoneD z).map .d)), (4, .box [.d (.int .i64 0), .nil 5, .d (.str [])]), (11, .row 41 5 ((rfold z cut (rl2 z cut) (s0.set.data.take k)).map signedD))]⟩, fun k => k ≤ s0.set.data.length, fun k => s0.set.data.length - k, ⟨0, by omega, Weak.keep ⟨⟨rfl, rfl⟩, ⟨rfl, rfl⟩, ⟨rfl, rfl⟩, ⟨rfl, rfl⟩, ⟨rfl, rfl⟩, ⟨rfl, rfl⟩, trivial⟩ ⟨⟨rfl, rfl⟩, ⟨rfl, rfl⟩, ⟨by (rw [hr2]; rfl), rfl⟩, trivial⟩⟩, fun k hk => ?_⟩; (conv => whnf); refine bcase_intro (fun h1 => ?_) (fun h1 => ?_) <;> (rw [h1]; conv => whnf))
    · have hlt : k < s0.set.data.length := by simp at h1; omega
      obtain ⟨d, hdk⟩ : ∃ d, s0.set.data[k]? = some d := ⟨_, List.getElem?_eq_getElem hlt⟩
      have hdv := hdn d (List.mem_of_getElem? hdk)
      have hsn := rfold_snoc z cut (rl2 z cut) (s0.set.data.take k) d
      rw [← take_snoc hdk] at hsn
      have hrl := rfold_len z cut (s0.set.data.take k) (rl2 z cut)
      rw [List.length_take] at hrl
      refine ⟨Int.natCast_nonneg k, datumD d, map_get hdk, ?_⟩
      conv => whnf
      (refine ⟨_, _, RIn_fn d.text cut (valid_len hdv) (valid_len hc), ?_⟩; conv => whnf)
      refine bcase_intro (fun hu => ?_) (fun hu => ?_) <;> (rw [hu]; conv => whnf)
      · rw [if_pos hu] at hsn
        (refine ⟨(by kernel_rfl : cleanOk _ = true), ?_⟩; conv => whnf)
        refine ⟨Int.natCast_nonneg k, datumD d, map_get hdk, ?_⟩
        conv => whnf
        refine ⟨_, addK _ _ d.text 1 (by omega), ?_⟩
        conv => whnf
        (repeat (refine ⟨by kernel_rfl, ?_⟩)); conv => whnf
        exact ⟨k + 1, hlt, by (show s0.set.data.length - (k + 1) < s0.set.data.length - k; omega), Weak.keep ⟨⟨rfl, rfl⟩, ⟨rfl, rfl⟩, ⟨rfl, rfl⟩, ⟨rfl, rfl⟩, ⟨rfl, rfl⟩, ⟨wrap_succ (by omega), rfl⟩, trivial⟩ ⟨⟨rfl, rfl⟩, ⟨rfl, rfl⟩, ⟨by (rw [hsn]; rfl), rfl⟩, trivial⟩⟩
      · rw [if_neg (by simp [hu])] at hsn
        exact ⟨k + 1, hlt, by (show s0.set.data.length - (k + 1) < s0.set.data.length - k; omega), Weak.keep ⟨⟨rfl, rfl⟩, ⟨rfl, rfl⟩, ⟨rfl, rfl⟩, ⟨rfl, rfl⟩, ⟨rfl, rfl⟩, ⟨wrap_succ (by omega), rfl⟩, trivial⟩ ⟨⟨rfl, rfl⟩, ⟨rfl, rfl⟩, ⟨by (rw [hsn]; rfl), rfl⟩, trivial⟩⟩
    · obtain rfl : k = s0.set.data.length := by simp at h1; omega
      refine ret_data rfl ?_
      unfold rreferA
      rw [hho, List.take_length]
      rfl
  · have hr2 : rl2 z cut = addR [s0] z ⟨cut, 6⟩ := by unfold rl2; rw [if_neg (by simp [heq]), hr1]
    (refine ⟨Nat, fun k => ⟨[(1, .d (.str cut)), (2, .ptr 2 0), (4, .ptr 4 0), (5, .own 11), (6, .d (.slice 3 (s0.set.data.map datumD))), (8, .d (.int .i64 k))], [(2, .box ((zoneD z).map .d)), (4, .box [.d (.int .i64 0), .nil 5, .d (.str [])]), (11, .row 41 5 ((rfold z cut (rl2 z cut) (s0.set.data.take k)).map signedD))]⟩, fun k => k ≤ s0.set.data.length, fun k => s0.set.data.length - k, ⟨0, by omega, Weak.keep ⟨⟨rfl, rfl⟩, ⟨rfl, rfl⟩, ⟨rfl, rfl⟩, ⟨rfl, rfl⟩, ⟨rfl, rfl⟩, ⟨rfl, rfl⟩, trivial⟩ ⟨⟨rfl, rfl⟩, ⟨rfl, rfl⟩, ⟨by (rw [hr2]; rfl), rfl⟩, trivial⟩⟩, fun k hk => ?_⟩; (conv => whnf); refine bcase_intro (fun h1 => ?_) (fun h1 => ?_) <;> (rw [h1]; conv => whnf))
    · have hlt : k < s0.set.data.length := by simp at h1; omega
      obtain ⟨d, hdk⟩ : ∃ d, s0.set.data[k]? = some d := ⟨_, List.getElem?_eq_getElem hlt⟩
      have hdv := hdn d (List.mem_of_getElem? hdk)
      have hsn := rfold_snoc z cut (rl2 z cut) (s0.set.data.take k) d
      rw [← take_snoc hdk] at hsn
      have hrl := rfold_len z cut (s0.set.data.take k) (rl2 z cut)
      rw [List.length_take] at hrl
      refine ⟨Int.natCast_nonneg k, datumD d, map_get hdk, ?_⟩
      conv => whnf
      (refine ⟨_, _, RIn_fn d.text cut (valid_len hdv) (valid_len hc), ?_⟩; conv => whnf)
      refine bcase_intro (fun hu => ?_) (fun hu => ?_) <;> (rw [hu]; conv => whnf)
      · rw [if_pos hu] at hsn
        (refine ⟨(by kernel_rfl : cleanOk _ = true), ?_⟩; conv => whnf)
        refine ⟨Int.natCast_nonneg k, datumD d, map_get hdk, ?_⟩
        conv => whnf
        refine ⟨_, addK _ _ d.text 1 (by omega), ?_⟩
        conv => whnf
        (repeat (refine ⟨by kernel_rfl, ?_⟩)); conv => whnf
        exact ⟨k + 1, hlt, by (show s0.set.data.length - (k + 1) < s0.set.data.length - k; omega), Weak.keep ⟨⟨rfl, rfl⟩, ⟨rfl, rfl⟩, ⟨rfl, rfl⟩, ⟨rfl, rfl⟩, ⟨rfl, rfl⟩, ⟨wrap_succ (by omega), rfl⟩, trivial⟩ ⟨⟨rfl, rfl⟩, ⟨rfl, rfl⟩, ⟨by (rw [hsn]; rfl), rfl⟩, trivial⟩⟩
      · rw [if_neg (by simp [hu])] at hsn
        exact ⟨k + 1, hlt, by (show s0.set.data.length - (k + 1) < s0.set.data.length - k; omega), Weak.keep ⟨⟨rfl, rfl⟩, ⟨rfl, rfl⟩, ⟨rfl, rfl⟩, ⟨rfl, rfl⟩, ⟨rfl, rfl⟩, ⟨wrap_succ (by omega), rfl⟩, trivial⟩ ⟨⟨rfl, rfl⟩, ⟨rfl, rfl⟩, ⟨by (rw [hsn]; rfl), rfl⟩, trivial⟩⟩
    · obtain rfl : k = s0.set.data.length := by simp at h1; omega
      refine ret_data rfl ?_
      unfold rreferA
      rw [hho, List.take_length]
      rfl
def fzR : Nat → List Nat
  | 11 => [55555]
  | 14 => [55555]
  | 17 => [66666, 55555]
  | 18 => [55555]
  | 20 => [55555]
  | 23 => [55555]
  | 26 => [55555]
  | 29 => [55555]
  | _ => []
def stR (z : Zone) (q : Quest) : St := ⟨[(2, .ptr 2 0), (3, .ptr 3 0), (4, .ptr 4 0)], [(2, .box ((zoneD z).map .d)), (3, .box ((questD q).map .d)), (4, .box [.d (.int .i64 0), .nil 5, .d (.str [])])]⟩
def stR2 (z : Zone) (q : Quest) (w : Bs) (proof : List Signed) : St := ⟨[(2, .ptr 2 0), (3, .ptr 3 0), (4, .ptr 4 0), (11, .own 87), (12, .d (.str w))], [(2, .box ((zoneD z).map .d)), (3, .box ((questD q).map .d)), (4, .box [.d (.int .i64 0), .nil 5, .d (.str [])]), (87, .row 41 5 (proof.map signedD))]⟩
def stR3 (z : Zone) (q : Quest) (proof : List Signed) : St := ⟨[(2, .ptr 2 0), (3, .ptr 3 0), (4, .ptr 4 0), (11, .own 87)], [(2, .box ((zoneD z).map .d)), (3, .box ((questD q).map .d)), (4, .box [.d (.int .i64 0), .nil 5, .d (.str [])]), (87, .row 41 5 (proof.map signedD))]⟩
theorem ranswer_rest4 (z : Zone) (q : Quest) (hf : fewB z = true) (hv : validZ z = true) (hq : questB q = true) (w : Bs) (hwv : validN w = true) (proof : List Signed) (hpl : proof.length ≤ 1000) (r : Ans × Int) (hr : (if existsR z w = true then ((⟨5, coverR proof z w, []⟩ : Ans), (0 : Int)) else (⟨6, coverR proof z w, []⟩, 0)) = r) (st : St) (hw : Weak cxR st (stR2 z q w proof)) :
    vc cxR Tryz.f17.ntmps fzR (tailC 20 ((Tryz.f17.body).getD .skip)) (fnQ cxR Tryz.f17.results.toList (.tuple [.agg ((ansD r.1).map .d), .d (.int .i64 r.2)]) []) st := by
  obtain ⟨f1, f2⟩ := fewB_facts hf
  have hz5 : z.sets.length ≤ 100000 := by omega
  have addK : ∀ (l : List Signed) (fl : Bool) (n : Bs) (t : Int), l.length ≤ 100000 → FnR cxR 64 true 41 5 (l.map signedD) fl [.agg (zoneD z), .str n, .int .i64 t] ((addR l z ⟨n, t⟩).map signedD) := fun l fl n t hl => fnR_cx (cx := cx) (cx' := cxR) rfl rfl (add_fnr l fl z n t hl hz5)
  have lenE : ∀ n t, (((addR [] z ⟨n, t⟩).map signedD).length : Int) = ((addR [] z ⟨n, t⟩).length : Int) := fun n t => by rw [List.length_map]
  have len1 : ∀ n t, (addR [] z ⟨n, t⟩).length ≤ 100 := fun n t => by have := addR_len [] z ⟨n, t⟩; simp at this; omega
  have ho := validZ_ordered hv
  have hqn : validN q.name = true := by unfold questB at hq; simp only [Bool.and_eq_true] at hq; exact hq.1.1
  have covK : ∀ (l : List Signed) (fl : Bool) (n : Bs), l.length ≤ 100000 → validN n = true → FnR cxR 65 true 41 5 (l.map signedD) fl [.agg (zoneD z), .str n] ((coverR l z n).map signedD) := fun l fl n hl hn => fnR_cx (cx := cx) (cx' := cxR) rfl rfl (cover_fnr l fl z n hl hz5 ho.name hn)
  conv => whnf
  refine ⟨stR2 z q w proof, hw, ?_⟩
  conv => whnf
  refine ⟨_, covK proof _ w (by omega) hwv, ?_⟩
  conv => whnf
  (refine ⟨_, _, exists_rfn z w hz5 ho.name hwv, ?_⟩; conv => whnf)
  refine bcase_intro (fun hew => ?_) (fun hew => ?_) <;> (rw [hew]; conv => whnf)
  · rw [if_pos hew] at hr; subst hr; exact ret_data rfl rfl
  · rw [if_neg (by rw [hew]; simp)] at hr; subst hr; exact ret_data rfl rfl
theorem ranswer_rest3 (z : Zone) (q : Quest) (hf : fewB z = true) (hv : validZ z = true) (hq : questB q = true) (w : Bs) (hwv : validN w = true) (proof : List Signed) (hpl : proof.length ≤ 1000) (r : Ans × Int) (hr : (if decide (((addR [] z ⟨w, q.type⟩).length : Int) > 0) = true then ((⟨2, coverR (addR [] z ⟨w, q.type⟩) z q.name, []⟩ : Ans), (0 : Int))
      else if (decide (((addR [] z ⟨w, 3⟩).length : Int) > 0) && (q.type != 8)) = true then (⟨3, coverR (addR [] z ⟨w, 3⟩) z q.name, []⟩, 0)
      else if existsR z w = true then (⟨5, coverR proof z w, []⟩, 0) else (⟨6, coverR proof z w, []⟩, 0)) = r) (st : St) (hw : Weak cxR st (stR2 z q w proof)) :
    vc cxR Tryz.f17.ntmps fzR (tailC 16 ((Tryz.f17.body).getD .skip)) (fnQ cxR Tryz.f17.results.toList (.tuple [.agg ((ansD r.1).map .d), .d (.int .i64 r.2)]) []) st := by
  obtain ⟨f1, f2⟩ := fewB_facts hf
  have hz5 : z.sets.length ≤ 100000 := by omega
  have addK : ∀ (l : List Signed) (fl : Bool) (n : Bs) (t : Int), l.length ≤ 100000 → FnR cxR 64 true 41 5 (l.map signedD) fl [.agg (zoneD z), .str n, .int .i64 t] ((addR l z ⟨n, t⟩).map signedD) := fun l fl n t hl => fnR_cx (cx := cx) (cx' := cxR) rfl rfl (add_fnr l fl z n t hl hz5)
  have lenE : ∀ n t, (((addR [] z ⟨n, t⟩).map signedD).length : Int) = ((addR [] z ⟨n, t⟩).length : Int) := fun n t => by rw [List.length_map]
  have len1 : ∀ n t, (addR [] z ⟨n, t⟩).length ≤ 100 := fun n t => by have := addR_len [] z ⟨n, t⟩; simp at this; omega
  have ho := validZ_ordered hv
  have hqn : validN q.name = true := by unfold questB at hq; simp only [Bool.and_eq_true] at hq; exact hq.1.1
  have covK : ∀ (l : List Signed) (fl : Bool) (n : Bs), l.length ≤ 100000 → validN n = true → FnR cxR 65 true 41 5 (l.map signedD) fl [.agg (zoneD z), .str n] ((coverR l z n).map signedD) := fun l fl n hl hn => fnR_cx (cx := cx) (cx' := cxR) rfl rfl (cover_fnr l fl z n hl hz5 ho.name hn)
  conv => whnf
  refine ⟨stR2 z q w proof, hw, ?_⟩
  conv => whnf
  refine ⟨_, addK [] false w q.type (by simp), ?_⟩
  conv => whnf
  rw [lenE]
  refine bcase_intro (fun hdw => ?_) (fun hdw => ?_) <;> (rw [hdw]; conv => whnf)
  · rw [if_pos hdw] at hr; subst hr
    refine ⟨_, covK (addR [] z ⟨w, q.type⟩) _ q.name (by have := len1 w q.type; omega) hqn, ?_⟩
    conv => whnf
    exact ret_data rfl rfl
  rw [if_neg (by rw [hdw]; simp)] at hr
  refine ⟨stR2 z q w proof, Weak.keep ⟨⟨rfl, rfl⟩, ⟨rfl, rfl⟩, ⟨rfl, rfl⟩, ⟨rfl, rfl⟩, ⟨rfl, rfl⟩, trivial⟩ ⟨⟨rfl, rfl⟩, ⟨rfl, rfl⟩, ⟨rfl, rfl⟩, ⟨rfl, rfl⟩, trivial⟩, ?_⟩
  conv => whnf
  refine ⟨_, addK [] false w 3 (by simp), ?_⟩
  conv => whnf
  rw [lenE]
  refine bcase_intro (fun haw => ?_) (fun haw => ?_) <;> (rw [haw]; conv => whnf)
  · refine bcase_intro (fun h8w => ?_) (fun h8w => ?_) <;> (rw [h8w]; conv => whnf)
    · rw [if_pos (by rw [haw, h8w]; rfl)] at hr; subst hr
      refine ⟨_, covK (addR [] z ⟨w, 3⟩) _ q.name (by have := len1 w 3; omega) hqn, ?_⟩
      conv => whnf
      exact ret_data rfl rfl
    · rw [if_neg (by rw [haw, h8w]; simp)] at hr
      exact ranswer_rest4 z q hf hv hq w hwv proof hpl r hr _ (Weak.keep ⟨⟨rfl, rfl⟩, ⟨rfl, rfl⟩, ⟨rfl, rfl⟩, ⟨rfl, rfl⟩, ⟨rfl, rfl⟩, trivial⟩ ⟨⟨rfl, rfl⟩, ⟨rfl, rfl⟩, ⟨rfl, rfl⟩, ⟨rfl, rfl⟩, trivial⟩)
  · rw [if_neg (by rw [haw]; simp)] at hr
    exact ranswer_rest4 z q hf hv hq w hwv proof hpl r hr _ (Weak.keep ⟨⟨rfl, rfl⟩, ⟨rfl, rfl⟩, ⟨rfl, rfl⟩, ⟨rfl, rfl⟩, ⟨rfl, rfl⟩, trivial⟩ ⟨⟨rfl, rfl⟩, ⟨rfl, rfl⟩, ⟨rfl, rfl⟩, ⟨rfl, rfl⟩, trivial⟩)
set_option maxHeartbeats 1000000 in
theorem ranswer_rest2 (z : Zone) (q : Quest) (hf : fewB z = true) (hv : validZ z = true) (hq : questB q = true) (hu : underN q.name z.apex = true) (r : Ans × Int) (hr : (if existsR z q.name = true then ((⟨5, coverR (addR [] z ⟨z.apex, 4⟩) z q.name, []⟩ : Ans), (0 : Int))
      else if (!((joinR ([42] :: labs (closestR z q.name))).2 == 0)) = true then (⟨6, coverR (addR [] z ⟨z.apex, 4⟩) z q.name, []⟩, 0)
      else let w := (joinR ([42] :: labs (closestR z q.name))).1
      if decide (((addR [] z ⟨w, q.type⟩).length : Int) > 0) = true then (⟨2, coverR (addR [] z ⟨w, q.type⟩) z q.name, []⟩, 0)
      else if (decide (((addR [] z ⟨w, 3⟩).length : Int) > 0) && (q.type != 8)) = true then (⟨3, coverR (addR [] z ⟨w, 3⟩) z q.name, []⟩, 0)
      else if existsR z w = true then (⟨5, coverR (coverR (addR [] z ⟨z.apex, 4⟩) z q.name) z w, []⟩, 0)
      else (⟨6, coverR (coverR (addR [] z ⟨z.apex, 4⟩) z q.name) z w, []⟩, 0)) = r) (st : St) (hw : Weak cxR st (stR z q)) :
    vc cxR Tryz.f17.ntmps fzR (tailC 12 ((Tryz.f17.body).getD .skip)) (fnQ cxR Tryz.f17.results.toList (.tuple [.agg ((ansD r.1).map .d), .d (.int .i64 r.2)]) []) st := by
  obtain ⟨f1, f2⟩ := fewB_facts hf
  have hz5 : z.sets.length ≤ 100000 := by omega
  have addK : ∀ (l : List Signed) (fl : Bool) (n : Bs) (t : Int), l.length ≤ 100000 → FnR cxR 64 true 41 5 (l.map signedD) fl [.agg (zoneD z), .str n, .int .i64 t] ((addR l z ⟨n, t⟩).map signedD) := fun l fl n t hl => fnR_cx (cx := cx) (cx' := cxR) rfl rfl (add_fnr l fl z n t hl hz5)
  have lenE : ∀ n t, (((addR [] z ⟨n, t⟩).map signedD).length : Int) = ((addR [] z ⟨n, t⟩).length : Int) := fun n t => by rw [List.length_map]
  have len1 : ∀ n t, (addR [] z ⟨n, t⟩).length ≤ 100 := fun n t => by have := addR_len [] z ⟨n, t⟩; simp at this; omega
  have ho := validZ_ordered hv
  have hqn : validN q.name = true := by unfold questB at hq; simp only [Bool.and_eq_true] at hq; exact hq.1.1
  have covK : ∀ (l : List Signed) (fl : Bool) (n : Bs), l.length ≤ 100000 → validN n = true → FnR cxR 65 true 41 5 (l.map signedD) fl [.agg (zoneD z), .str n] ((coverR l z n).map signedD) := fun l fl n hl hn => fnR_cx (cx := cx) (cx' := cxR) rfl rfl (cover_fnr l fl z n hl hz5 ho.name hn)
  have hval := val_iff.1 hv
  have hex : existsR z z.apex = true := has_exists hval.start
  have hcl : validN (closestR z q.name) = true := closest_valid hqn
  conv => whnf
  refine ⟨stR z q, hw, ?_⟩
  conv => whnf
  (refine ⟨(by kernel_rfl : cleanOk _ = true), ?_⟩; conv => whnf)
  refine ⟨_, addK [] false z.apex 4 (by simp), ?_⟩
  conv => whnf
  (repeat (refine ⟨by kernel_rfl, ?_⟩)); conv => whnf
  refine ⟨_, covK (addR [] z ⟨z.apex, 4⟩) _ q.name (by have := len1 z.apex 4; omega) hqn, ?_⟩
  conv => whnf
  (repeat (refine ⟨by kernel_rfl, ?_⟩)); conv => whnf
  refine ⟨stR3 z q (coverR (addR [] z ⟨z.apex, 4⟩) z q.name), Weak.keep ⟨⟨rfl, rfl⟩, ⟨rfl, rfl⟩, ⟨rfl, rfl⟩, ⟨rfl, rfl⟩, trivial⟩ ⟨⟨rfl, rfl⟩, ⟨rfl, rfl⟩, ⟨rfl, rfl⟩, ⟨rfl, rfl⟩, trivial⟩, ?_⟩
  conv => whnf
  (refine ⟨_, _, exists_rfn z q.name hz5 ho.name hqn, ?_⟩; conv => whnf)
  refine bcase_intro (fun he => ?_) (fun he => ?_) <;> (rw [he]; conv => whnf)
  · rw [if_pos he] at hr; subst hr; exact ret_data rfl rfl
  rw [if_neg (by rw [he]; simp)] at hr
  refine ⟨stR3 z q (coverR (addR [] z ⟨z.apex, 4⟩) z q.name), Weak.keep ⟨⟨rfl, rfl⟩, ⟨rfl, rfl⟩, ⟨rfl, rfl⟩, ⟨rfl, rfl⟩, trivial⟩ ⟨⟨rfl, rfl⟩, ⟨rfl, rfl⟩, ⟨rfl, rfl⟩, ⟨rfl, rfl⟩, trivial⟩, ?_⟩
  conv => whnf
  (refine ⟨_, _, closest_fn z q.name hz5 ho.name hqn hu hex, ?_⟩; conv => whnf)
  (refine ⟨_, _, wildcard_fn (closestR z q.name) hcl, ?_⟩; conv => whnf)
  refine bcase_intro (fun hj => ?_) (fun hj => ?_) <;> (rw [hj]; conv => whnf)
  · rw [if_pos hj] at hr; subst hr; exact ret_data rfl rfl
  rw [if_neg (by rw [hj]; simp)] at hr
  have hwv : validN (joinR ([42] :: labs (closestR z q.name))).1 = true := by
    have hj0 : (joinR ([42] :: labs (closestR z q.name))).2 = 0 := by simpa using hj
    unfold joinR at hj0 ⊢
    split
    · rename_i h; exact (join_ok h).1
    · rename_i h; rw [if_neg h] at hj0; simp at hj0
  have hcl2 := coverR_len (addR [] z ⟨z.apex, 4⟩) z q.name
  have hl4 := len1 z.apex 4
  exact ranswer_rest3 z q hf hv hq _ hwv _ (by omega) r hr _ (Weak.keep ⟨⟨rfl, rfl⟩, ⟨rfl, rfl⟩, ⟨rfl, rfl⟩, ⟨rfl, rfl⟩, ⟨rfl, rfl⟩, trivial⟩ ⟨⟨rfl, rfl⟩, ⟨rfl, rfl⟩, ⟨rfl, rfl⟩, ⟨rfl, rfl⟩, trivial⟩)
theorem ranswer_rest (z : Zone) (q : Quest) (hf : fewB z = true) (hv : validZ z = true) (hq : questB q = true) (hu : underN q.name z.apex = true) (hno : (!(cutOfR z q.name == []) && (!(cutOfR z q.name == q.name) || !specialQ q)) = false) (r : Ans × Int) (hr : rAnsR z q = r) (st : St) (hw : Weak cxR st (stR z q)) :
    vc cxR Tryz.f17.ntmps fzR (tailC 8 ((Tryz.f17.body).getD .skip)) (fnQ cxR Tryz.f17.results.toList (.tuple [.agg ((ansD r.1).map .d), .d (.int .i64 r.2)]) []) st := by
  obtain ⟨f1, f2⟩ := fewB_facts hf
  have hz5 : z.sets.length ≤ 100000 := by omega
  have addK : ∀ (l : List Signed) (fl : Bool) (n : Bs) (t : Int), l.length ≤ 100000 → FnR cxR 64 true 41 5 (l.map signedD) fl [.agg (zoneD z), .str n, .int .i64 t] ((addR l z ⟨n, t⟩).map signedD) := fun l fl n t hl => fnR_cx (cx := cx) (cx' := cxR) rfl rfl (add_fnr l fl z n t hl hz5)
  have lenE : ∀ n t, (((addR [] z ⟨n, t⟩).map signedD).length : Int) = ((addR [] z ⟨n, t⟩).length : Int) := fun n t => by rw [List.length_map]
  have len1 : ∀ n t, (addR [] z ⟨n, t⟩).length ≤ 100 := fun n t => by have := addR_len [] z ⟨n, t⟩; simp at this; omega
  have ho := validZ_ordered hv
  have hqn : validN q.name = true := by unfold questB at hq; simp only [Bool.and_eq_true] at hq; exact hq.1.1
  have covK : ∀ (l : List Signed) (fl : Bool) (n : Bs), l.length ≤ 100000 → validN n = true → FnR cxR 65 true 41 5 (l.map signedD) fl [.agg (zoneD z), .str n] ((coverR l z n).map signedD) := fun l fl n hl hn => fnR_cx (cx := cx) (cx' := cxR) rfl rfl (cover_fnr l fl z n hl hz5 ho.name hn)
  have hvq : (!validZ z || !questB q) = false := by rw [hv, hq]; rfl
  unfold rAnsR at hr
  rw [if_neg (by simp [hvq]), if_neg (by simp [hu]), if_neg (by rw [hno]; simp)] at hr
  conv => whnf
  refine ⟨stR z q, hw, ?_⟩
  conv => whnf
  refine ⟨_, addK [] false q.name q.type (by simp), ?_⟩
  conv => whnf
  rw [lenE]
  refine bcase_intro (fun hd => ?_) (fun hd => ?_) <;> (rw [hd]; conv => whnf)
  · rw [if_pos hd] at hr; subst hr
    exact ret_data rfl rfl
  rw [if_neg (by rw [hd]; simp)] at hr
  refine ⟨stR z q, Weak.keep ⟨⟨rfl, rfl⟩, ⟨rfl, rfl⟩, ⟨rfl, rfl⟩, trivial⟩ ⟨⟨rfl, rfl⟩, ⟨rfl, rfl⟩, ⟨rfl, rfl⟩, trivial⟩, ?_⟩
  conv => whnf
  refine ⟨_, addK [] false q.name 3 (by simp), ?_⟩
  conv => whnf
  rw [lenE]
  refine bcase_intro (fun ha => ?_) (fun ha => ?_) <;> (rw [ha]; conv => whnf)
  · refine bcase_intro (fun h8 => ?_) (fun h8 => ?_) <;> (rw [h8]; conv => whnf)
    · rw [if_pos (by rw [ha, h8]; rfl)] at hr; subst hr; exact ret_data rfl rfl
    · rw [if_neg (by rw [ha, h8]; simp)] at hr
      exact ranswer_rest2 z q hf hv hq hu r hr _ (Weak.keep ⟨⟨rfl, rfl⟩, ⟨rfl, rfl⟩, ⟨rfl, rfl⟩, trivial⟩ ⟨⟨rfl, rfl⟩, ⟨rfl, rfl⟩, ⟨rfl, rfl⟩, trivial⟩)
  · rw [if_neg (by rw [ha]; simp)] at hr
    exact ranswer_rest2 z q hf hv hq hu r hr _ (Weak.keep ⟨⟨rfl, rfl⟩, ⟨rfl, rfl⟩, ⟨rfl, rfl⟩, trivial⟩ ⟨⟨rfl, rfl⟩, ⟨rfl, rfl⟩, ⟨rfl, rfl⟩, trivial⟩)
theorem ranswer_fn (z : Zone) (q : Quest) (hf : fewB z = true) : NQ.Fn cx 17 [.agg (zoneD z), .agg (questD q)] (.tuple [.agg ((ansD (rAnsR z q).1).map .d), .d (.int .i64 (rAnsR z q).2)]) [] := by
  show NQ.Fn cxR _ _ _ _
  refine fn_of_vcz fzR tyR mixedR Tryz.func17 (by kernel_rfl) rfl (Nat.le_of_ble_eq_true rfl) ?_
  conv => whnf
  obtain ⟨f1, f2⟩ := fewB_facts hf
  have hz5 : z.sets.length ≤ 100000 := by omega
  have addK : ∀ (l : List Signed) (fl : Bool) (n : Bs) (t : Int), l.length ≤ 100000 → FnR cxR 64 true 41 5 (l.map signedD) fl [.agg (zoneD z), .str n, .int .i64 t] ((addR l z ⟨n, t⟩).map signedD) := fun l fl n t hl => fnR_cx (cx := cx) (cx' := cxR) rfl rfl (add_fnr l fl z n t hl hz5)
  have len1 : ∀ n t, (addR [] z ⟨n, t⟩).length ≤ 1 := fun n t => addR_len [] z ⟨n, t⟩
  have lenE : ∀ n t, (((addR [] z ⟨n, t⟩).map signedD).length : Int) = ((addR [] z ⟨n, t⟩).length : Int) := fun n t => by rw [List.length_map]
  (refine ⟨_, _, rvalid_fn z hz5, ?_⟩; conv => whnf)
  (refine ⟨_, _, rquest_fn q, ?_⟩; conv => whnf)
  have bad : (!validZ z || !questB q) = true → rAnsR z q = (ans0, 1) := fun h => by unfold rAnsR; rw [if_pos h]
  refine bcase_intro (fun hv => ?_) (fun hv => ?_) <;> (rw [hv]; conv => whnf)
  · exact ret_data rfl (by rw [bad (by rw [hv]; rfl)]; rfl)
  refine bcase_intro (fun hq => ?_) (fun hq => ?_) <;> (rw [hq]; conv => whnf)
  · exact ret_data rfl (by rw [bad (by rw [hq]; simp)]; rfl)
  have hvq : (!validZ z || !questB q) = false := by rw [hv, hq]; rfl
  have hv : validZ z = true := by simpa using hv
  have hq : questB q = true := by simpa using hq
  have ho := validZ_ordered hv
  have hqn : validN q.name = true := by unfold questB at hq; simp only [Bool.and_eq_true] at hq; exact hq.1.1
  have covK : ∀ (l : List Signed) (fl : Bool) (n : Bs), l.length ≤ 100000 → validN n = true → FnR cxR 65 true 41 5 (l.map signedD) fl [.agg (zoneD z), .str n] ((coverR l z n).map signedD) := fun l fl n hl hn => fnR_cx (cx := cx) (cx' := cxR) rfl rfl (cover_fnr l fl z n hl hz5 ho.name hn)
  (refine ⟨_, _, RIn_fn q.name z.apex (valid_len hqn) (valid_len ho.apex), ?_⟩; conv => whnf)
  refine bcase_intro (fun hu => ?_) (fun hu => ?_) <;> (rw [hu]; conv => whnf)
  · exact ret_data rfl (by unfold rAnsR; rw [if_neg (by simp [hvq]), if_pos hu]; rfl)
  have hun : (!underN q.name z.apex) = false := hu
  have hu : underN q.name z.apex = true := by simpa using hu
  (refine ⟨_, _, cutOf_fn z q.name hz5 ho.name hqn, ?_⟩; conv => whnf)
  have base : rAnsR z q = if (!(cutOfR z q.name == []) && (!(cutOfR z q.name == q.name) || !specialQ q)) = true then (rreferA z (cutOfR z q.name), 0)
      else if decide (((addR [] z q).length : Int) > 0) = true then (⟨1, addR [] z q, []⟩, 0)
      else if (decide (((addR [] z ⟨q.name, 3⟩).length : Int) > 0) && (q.type != 8)) = true then (⟨3, addR [] z ⟨q.name, 3⟩, []⟩, 0)
      else if existsR z q.name = true then (⟨5, coverR (addR [] z ⟨z.apex, 4⟩) z q.name, []⟩, 0)
      else if (!((joinR ([42] :: labs (closestR z q.name))).2 == 0)) = true then (⟨6, coverR (addR [] z ⟨z.apex, 4⟩) z q.name, []⟩, 0)
      else let w := (joinR ([42] :: labs (closestR z q.name))).1
      if decide (((addR [] z ⟨w, q.type⟩).length : Int) > 0) = true then (⟨2, coverR (addR [] z ⟨w, q.type⟩) z q.name, []⟩, 0)
      else if (decide (((addR [] z ⟨w, 3⟩).length : Int) > 0) && (q.type != 8)) = true then (⟨3, coverR (addR [] z ⟨w, 3⟩) z q.name, []⟩, 0)
      else if existsR z w = true then (⟨5, coverR (coverR (addR [] z ⟨z.apex, 4⟩) z q.name) z w, []⟩, 0)
      else (⟨6, coverR (coverR (addR [] z ⟨z.apex, 4⟩) z q.name) z w, []⟩, 0) := by unfold rAnsR; rw [if_neg (by simp [hvq]), if_neg (by simp [hun])]
  have ref : cutOfR z q.name ≠ [] → NQ.Fn cxR 63 [.agg (zoneD z), .str (cutOfR z q.name)] (.agg ((ansD (rreferA z (cutOfR z q.name))).map .d)) [] := fun hne => by
    obtain ⟨c1, c2⟩ := cutOf_cut ho hne
    exact rrefer_fn z (cutOfR z q.name) (by omega) c1 c2 (serv_ok ho hf)
  have done : ∀ (b : Bool), (!(cutOfR z q.name == []) && (!(cutOfR z q.name == q.name) || !specialQ q)) = b → b = true → rAnsR z q = (rreferA z (cutOfR z q.name), 0) := fun b h1 h2 => by rw [base, if_pos (by rw [h1, h2])]
  have hval := val_iff.1 hv
  have hex : existsR z z.apex = true := has_exists hval.start
  have hcl : validN (closestR z q.name) = true := closest_valid hqn
  repeat' (first
    | (refine bcase_intro (fun h => ?_) (fun h => ?_) <;> (rw [h]; conv => whnf))
    | (refine ⟨_, _, ref (cut_ne_of (by assumption)), ?_⟩
       conv => whnf
       have e0 : (!(cutOfR z q.name == [])) = true := by assumption
       have e1 : (!(cutOfR z q.name == []) && (!(cutOfR z q.name == q.name) || !specialQ q)) = true := by (unfold specialQ; simp only [*, if_true, if_false, Bool.false_eq_true, Bool.not_true, Bool.not_false, Bool.not_not, Bool.true_or, Bool.or_true, Bool.false_or, Bool.or_false, Bool.and_true, Bool.true_and, Bool.false_and, Bool.and_false])
       exact ret_data rfl (by rw [done _ e1 rfl]; rfl))
    | fail)
  all_goals
    have hno : (!(cutOfR z q.name == []) && (!(cutOfR z q.name == q.name) || !specialQ q)) = false := by
      unfold specialQ
      first
        | (have e0 : (!(cutOfR z q.name == [])) = true := by assumption
           simp only [*, if_true, if_false, Bool.false_eq_true, Bool.not_true, Bool.not_false, Bool.not_not, Bool.true_or, Bool.or_true, Bool.false_or, Bool.or_false, Bool.and_true, Bool.true_and, Bool.false_and, Bool.and_false]; done)
        | (have e0 : (!(cutOfR z q.name == [])) = false := by assumption
           simp only [*, if_true, if_false, Bool.false_eq_true, Bool.not_true, Bool.not_false, Bool.not_not, Bool.true_or, Bool.or_true, Bool.false_or, Bool.or_false, Bool.and_true, Bool.true_and, Bool.false_and, Bool.and_false]; done)
    exact ranswer_rest z q hf hv hq hu hno _ rfl _ (Weak.keep ⟨⟨rfl, rfl⟩, ⟨rfl, rfl⟩, ⟨rfl, rfl⟩, trivial⟩ ⟨⟨rfl, rfl⟩, ⟨rfl, rfl⟩, ⟨rfl, rfl⟩, trivial⟩)
end Go.Proofs.YtmgacjioflnamaaGreatDoor

/-
  Plain: the reference's answer is lookup's answer.
-/
set_option linter.unusedSimpArgs false
set_option linter.unusedVariables false
set_option maxRecDepth 100000
namespace NP
open NQ Go
/-- A set comes to the others by its place, if it is not there. -/
def addP (sets : List Signed) (l : List Signed) (p : Int) : List Signed :=
  if decide (p < 0) = true then l else match sets[p.toNat]? with | some s => if hasS l (qOf s) = true then l else l ++ [s] | none => l
def SeenOk (sets l : List Signed) (seen : List Int) : Prop := ∀ (k : Nat) s, sets[k]? = some s → hasS l (qOf s) = seen.contains (k : Int)
theorem place_inj {sets : List Signed} (hr : RP sets) {i j : Nat} {a b : Signed} (ha : sets[i]? = some a) (hb : sets[j]? = some b) (h : a.place = b.place) : i = j := by
  have hp := List.pairwise_iff_getElem.1 hr
  obtain ⟨hi, e1⟩ := List.getElem?_eq_some_iff.1 ha
  obtain ⟨hj, e2⟩ := List.getElem?_eq_some_iff.1 hb
  rcases Nat.lt_trichotomy i j with hlt | heq | hlt
  · exact absurd h (by have := hp i j hi hj hlt; rw [e1, e2] at this; exact cpl_lt_ne this)
  · exact heq
  · exact absurd h.symm (by have := hp j i hj hi hlt; rw [e1, e2] at this; exact cpl_lt_ne this)
theorem pick_add {sets : List Signed} (hr : RP sets) : ∀ (ps : List Int) (l : List Signed) (seen : List Int), (∀ p ∈ ps, p < sets.length) → SeenOk sets l seen → ps.foldl (addP sets) l = l ++ pickS sets seen ps
  | [], l, seen, _, _ => by simp [pickS]
  | p :: ps, l, seen, hp, hs => by
    have hps : ∀ q ∈ ps, q < sets.length := fun q hq => hp q (List.mem_cons_of_mem _ hq)
    rw [List.foldl_cons, pickS]
    by_cases hneg : p < 0
    · have e : addP sets l p = l := by unfold addP; rw [if_pos (by simpa using hneg)]
      rw [e, if_pos (by simp [hneg])]
      refine pick_add hr ps l _ hps fun k s hk => ?_
      rw [hs k s hk, Bool.eq_iff_iff, List.contains_iff_mem, List.contains_iff_mem, List.mem_append]
      refine ⟨.inl, fun h => h.elim id fun h => ?_⟩
      simp at h; omega
    · have hplt := hp p (List.mem_cons_self ..)
      obtain ⟨s, hsp⟩ : ∃ s, sets[p.toNat]? = some s := ⟨_, List.getElem?_eq_getElem (by omega)⟩
      have hpn : ((p.toNat : Nat) : Int) = p := by omega
      have hin := hs p.toNat s hsp
      rw [hpn] at hin
      cases hc : seen.contains p with
      | true =>
        rw [hc] at hin
        have e : addP sets l p = l := by unfold addP; rw [if_neg (by simpa using hneg), hsp]; simp only [hin, if_true]
        rw [e, if_pos (by simp [hc])]
        refine pick_add hr ps l _ hps fun k t hk => ?_
        rw [hs k t hk, Bool.eq_iff_iff, List.contains_iff_mem, List.contains_iff_mem, List.mem_append]
        refine ⟨.inl, fun h => h.elim id fun h => ?_⟩
        simp at h; rw [h]; exact List.contains_iff_mem.1 hc
      | false =>
        rw [hc] at hin
        have e : addP sets l p = l ++ [s] := by unfold addP; rw [if_neg (by simpa using hneg), hsp]; simp only [hin, if_false, Bool.false_eq_true]
        rw [e, if_neg (by simp [hneg, hc]), hsp]
        rw [pick_add hr ps (l ++ [s]) (seen ++ [p]) hps fun k t hk => ?_]
        · simp
        · have : hasS (l ++ [s]) (qOf t) = (hasS l (qOf t) || is (qOf t) s) := by unfold hasS; rw [List.any_append]; simp
          rw [this, hs k t hk, Bool.eq_iff_iff, Bool.or_eq_true, List.contains_iff_mem, List.contains_iff_mem, List.mem_append]
          refine or_congr Iff.rfl ?_
          rw [is_iff, List.mem_singleton]
          constructor
          · intro h
            have := place_inj hr hsp hk h
            omega
          · intro h
            have : k = p.toNat := by omega
            subst this; rw [hsp] at hk; cases hk; rfl
theorem seen_nil (sets : List Signed) : SeenOk sets [] [] := fun k s _ => rfl
theorem addR_addP {z : Zone} (l : List Signed) (q : Quest) : addR l z q = addP z.sets l (atI z.sets q) := by
  unfold addR addP
  by_cases h : decide (atI z.sets q < 0) = true
  · rw [if_pos h, if_pos h]
  · rw [if_neg h, if_neg h]
    have hh : hasS z.sets q = true := by
      have := atI_neg z.sets q
      cases hc : hasS z.sets q with
      | true => rfl
      | false => rw [hc] at this; exact absurd this h
    obtain ⟨k, s, h1, h2, h3⟩ := at_is hh
    have hk : (atI z.sets q).toNat = k := by rw [h1]; rfl
    rw [hk, h2]
    simp only
    have : hasS l q = hasS l (qOf s) := by
      unfold hasS
      congr 1
      funext x
      rw [Bool.eq_iff_iff, is_iff, is_iff]
      have : (qOf s).place = q.place := h3
      rw [this]
    rw [this]
theorem cvGo_covGo (l : List Signed) (n : Bs) : ∀ k : Nat, k ≤ posG l n → (∀ i s, i < k → l[i]? = some s → compareN s.set.name n ≤ 0) → (cvGo l n k = none ∧ covGo l k = -1) ∨ ∃ i s, l[i]? = some s ∧ cvGo l n k = some s ∧ covGo l k = ((i : Nat) : Int) ∧ s.set.type = 8
  | 0, _, _ => .inl ⟨rfl, rfl⟩
  | k + 1, hk, h => by
    have hlt : k < l.length := by have := posG_le l n; omega
    obtain ⟨s, hs⟩ : ∃ s, l[k]? = some s := ⟨_, List.getElem?_eq_getElem hlt⟩
    have hc := h k s (by omega) hs
    simp only [cvGo, covGo, hs]
    by_cases ht : s.set.type = 8
    · refine .inr ⟨k, s, hs, ?_, ?_, ht⟩
      · rw [if_pos (by unfold cvHit; simp [ht, hc])]
      · simp [ht]
    · have e1 : cvHit n s = false := by unfold cvHit; simp [ht]
      rw [if_neg (by simp [e1])]
      have e2 : (s.set.type == 8) = false := by simpa using ht
      have := cvGo_covGo l n k (by omega) fun i s hi hs => h i s (by omega) hs
      simpa [e2, ht] using this
theorem cvGo_skip (l : List Signed) (n : Bs) : ∀ k j : Nat, j ≤ k → (∀ i s, j ≤ i → i < k → l[i]? = some s → 0 < compareN s.set.name n) → cvGo l n k = cvGo l n j
  | 0, j, hj, _ => by obtain rfl : j = 0 := by omega
                      rfl
  | k + 1, j, hj, h => by
    by_cases e : j = k + 1
    · rw [e]
    · rw [cvGo]
      have := cvGo_skip l n k j (by omega) fun i s h1 h2 hs => h i s h1 (by omega) hs
      cases hs : l[k]? with
      | none => exact this
      | some s =>
        have hc := h k s (by omega) (by omega) hs
        have e1 : cvHit n s = false := by unfold cvHit; rw [decide_eq_false (by omega)]; simp
        simp only
        rw [if_neg (by simp [e1])]
        exact this
theorem cov_cases {z : Zone} (hr : Rising z.sets) (n : Bs) : (cvGo z.sets n z.sets.length = none ∧ covI z.sets n = -1) ∨ ∃ i s, z.sets[i]? = some s ∧ cvGo z.sets n z.sets.length = some s ∧ covI z.sets n = ((i : Nat) : Int) ∧ s.set.type = 8 := by
  have hp := rising_pw hr
  rw [cvGo_skip z.sets n z.sets.length (posG z.sets n) (posG_le _ _) fun i s h1 _ hs => (posG_iff hp hs).1 h1]
  exact cvGo_covGo z.sets n _ (Nat.le_refl _) fun i s hi hs => by
    have : ¬ (posG z.sets n ≤ i) := by omega
    rw [posG_iff hp hs] at this; omega
theorem coverR_addP {z : Zone} (hr : Rising z.sets) (l : List Signed) (n : Bs) : coverR l z n = addP z.sets l (covI z.sets n) := by
  unfold coverR
  rcases cov_cases hr n with ⟨h1, h2⟩ | ⟨i, s, hs, h1, h2, ht⟩
  · rw [h1, h2]; rfl
  · rw [h1, h2]
    simp only
    rw [addR_addP]
    have hmem := List.mem_of_getElem? hs
    have hq : (⟨s.set.name, 8⟩ : Quest).place = s.place := by unfold Quest.place Signed.place; simp [ht]
    have hh : hasS z.sets ⟨s.set.name, 8⟩ = true := has_iff.2 ⟨s, hmem, hq.symm⟩
    obtain ⟨k, t, h3, h4, h5⟩ := at_is hh
    have := place_inj hr.pw h4 hs (h5.trans hq)
    subst this
    rw [h3]
theorem cN_flip {a b : Bs} (h : compareN a b ≤ 0) : 0 ≤ compareN b a := by have := compareN_ord.anti a b; omega
theorem cN_flip' {a b : Bs} (h : 0 ≤ compareN a b) : compareN b a ≤ 0 := by have := compareN_ord.anti a b; omega
theorem underR_eq {s n : Bs} (hs : validN s = true) (hn : validN n = true) : (underR s n).1 = underN s n := by unfold underR; rw [if_pos ⟨hs, hn⟩]
theorem exB_exists {z : Zone} (ho : Ordered z) {n : Bs} (hn : validN n = true) : exB z.sets n = existsR z n := by
  have hp := rising_pw ho.rising
  have ge : ∀ s ∈ z.sets, underN s.set.name n = true → ∃ i, z.sets[i]? = some s ∧ posN z.sets n ≤ i := fun s hs hu => by
    obtain ⟨i, hi⟩ := List.getElem?_of_mem hs
    exact ⟨i, hi, (posN_iff hp hi).2 (cN_flip (stretch1 hu))⟩
  unfold exB existsR
  cases hg : z.sets[posN z.sets n]? with
  | none =>
    symm
    rw [List.any_eq_false]
    intro s hs hu
    obtain ⟨i, hi, hle⟩ := ge s hs hu
    have h1 := (List.getElem?_eq_some_iff.1 hi).1
    have h2 := List.getElem?_eq_none_iff.1 hg
    omega
  | some t =>
    have htm := List.mem_of_getElem? hg
    simp only
    rw [underR_eq (ho.name t htm) hn]
    cases hu : underN t.set.name n with
    | true => symm; exact List.any_eq_true.2 ⟨t, htm, hu⟩
    | false =>
      symm
      rw [List.any_eq_false]
      intro s hs hus
      obtain ⟨i, hi, hle⟩ := ge s hs hus
      have hnt : compareN n t.set.name ≤ 0 := cN_flip' ((posN_iff hp hg).1 (Nat.le_refl _))
      have hts : compareN t.set.name s.set.name ≤ 0 := by
        rcases Nat.lt_or_eq_of_le hle with hlt | heq
        · obtain ⟨h1, e1⟩ := List.getElem?_eq_some_iff.1 hg
          obtain ⟨h2, e2⟩ := List.getElem?_eq_some_iff.1 hi
          have := List.pairwise_iff_getElem.1 hp _ _ h1 h2 hlt
          rwa [e1, e2] at this
        · rw [← heq, hg] at hi; cases hi
          have := (compareN_ord.zero t.set.name t.set.name).2 rfl
          omega
      have := stretch2 (under_self n) hus hnt hts
      rw [hu] at this; cases this
theorem close_eq {z : Zone} (ho : Ordered z) (hex : existsR z z.apex = true) : ∀ (f : Nat) (n : Bs), validN n = true → underN n z.apex = true → closeGo z.apex z.sets f n = clGo z f n
  | 0, n, _, _ => rfl
  | f + 1, n, hn, hu => by
    rw [closeGo, clGo]
    by_cases hne : n = z.apex
    · subst hne; rw [if_pos rfl, if_pos hex]
    · rw [if_neg hne, exB_exists ho hn]
      cases he : existsR z n with
      | true => rw [if_pos rfl, if_pos rfl]
      | false =>
        rw [if_neg (by simp), if_neg (by simp)]
        obtain ⟨_, k2, _⟩ := under_up hn hu hne
        exact close_eq ho hex f (parentN n) (parent_valid hn) k2
theorem fold_hosts {z : Zone} {v : View} (hv : v.sets = z.sets) (hc : validN v.cut = true) : ∀ (h : List Datum) (l : List Signed), (∀ d ∈ h, validN d.text = true) → rfold z v.cut l h = (hostI v h).foldl (addP z.sets) l
  | [], l, _ => by simp [rfold, hostI]
  | d :: h, l, hd => by
    have e1 : rfold z v.cut l (d :: h) = rfold z v.cut (if underN d.text v.cut = true then addR l z ⟨d.text, 1⟩ else l) h := rfl
    have e2 : hostI v (d :: h) = (if (underR d.text v.cut).1 = true then [atI v.sets ⟨d.text, 1⟩] else []) ++ hostI v h := by unfold hostI; rw [List.flatMap_cons]
    rw [e1, e2, List.foldl_append, underR_eq (hd d (List.mem_cons_self ..)) hc, fold_hosts hv hc h _ fun x hx => hd x (List.mem_cons_of_mem _ hx)]
    congr 1
    split
    · rw [addR_addP, hv]; rfl
    · rfl
theorem at_lt (l : List Signed) (q : Quest) : atI l q < l.length := atI_lt l q
theorem host_lt {v : View} {l : List Datum} {q : Int} (hq : q ∈ hostI v l) : q < v.sets.length := by
  unfold hostI at hq
  obtain ⟨x, _, hx⟩ := List.mem_flatMap.1 hq
  split at hx
  · simp at hx; rw [hx]; exact atI_lt _ _
  · cases hx
theorem referP_lt {v : View} {q : Int} (hq : q ∈ referP v) : q < v.sets.length := by
  unfold referP at hq
  rcases List.mem_append.1 hq with hq | hq
  · simp at hq
    rcases hq with rfl | rfl
    · exact atI_lt _ _
    · unfold proofI; split <;> exact atI_lt _ _
  · exact host_lt hq
theorem refer_eq {z : Zone} {v : View} (ho : Ordered z) (hf : fewB z = true) (hs : v.sets = z.sets) (hc : validN v.cut = true) (hcut : hasS z.sets ⟨v.cut, 2⟩ = true) : (⟨4, pickS v.sets [] (referP v), v.cut⟩ : Ans) = rreferA z v.cut := by
  obtain ⟨s0, hs0, hp0, e0⟩ := addR_nil hcut
  have hr0 : rl0 z v.cut = [s0] := e0
  have e2 : rl2 z v.cut = addP z.sets (addP z.sets [] (servI v)) (proofI v) := by
    have e3 : addP z.sets [] (servI v) = [s0] := by unfold servI; rw [hs, ← addR_addP]; exact e0
    rw [e3]
    unfold rl2
    rw [hr0]
    have hr1 : rl1 z v.cut = addP z.sets [s0] (atI z.sets ⟨v.cut, 6⟩) := by unfold rl1; rw [hr0, addR_addP]
    by_cases hneg : atI z.sets ⟨v.cut, 6⟩ < 0
    · have : rl1 z v.cut = [s0] := by rw [hr1]; unfold addP; rw [if_pos (by simpa using hneg)]
      rw [this, if_pos (by simp), addR_addP]
      unfold proofI; rw [hs, if_pos (by simpa using hneg)]
    · obtain ⟨k, s, h1, h2, h3⟩ := at_is (l := z.sets) (q := ⟨v.cut, 6⟩) (by
        have := atI_neg z.sets ⟨v.cut, 6⟩
        cases hc : hasS z.sets ⟨v.cut, 6⟩ with
        | true => rfl
        | false => rw [hc] at this; simp at this; omega)
      have hno : hasS [s0] (qOf s) = false := by
        unfold hasS
        simp only [List.any_cons, List.any_nil, Bool.or_false]
        rw [← Bool.not_eq_true, is_iff]
        intro e
        have e' : s0.place = s.place := e
        rw [hp0, h3] at e'
        have := congrArg Prod.snd e'
        simp [Quest.place] at this
      have : rl1 z v.cut = [s0] ++ [s] := by rw [hr1, h1]; unfold addP; rw [if_neg (by simp)]; simp only [show ((k : Nat) : Int).toNat = k by simp, h2, hno]; rfl
      rw [this, if_neg (by simp), ← this, hr1]
      unfold proofI; rw [hs, if_neg (by simpa using hneg)]
  have hho : hostsR (rl0 z v.cut) = servD v := by
    have h1 : servI v = atI z.sets ⟨v.cut, 2⟩ := by unfold servI; rw [hs]
    obtain ⟨k, s, a1, a2, a3⟩ := at_is hcut
    have : s = s0 := RP.uniq ho.rising.pw (List.mem_of_getElem? a2) hs0 (a3.trans hp0.symm)
    subst this
    unfold hostsR servD
    rw [hr0, h1, a1, hs]
    simp [a2]
  have hdv : ∀ d ∈ servD v, validN d.text = true := by
    rw [← hho]; unfold hostsR; rw [hr0]
    exact ((serv_ok ho hf) s0 hs0).2 (congrArg Prod.snd hp0)
  unfold rreferA
  congr 1
  rw [hho, e2, fold_hosts hs hc _ _ hdv, hs]
  have := pick_add ho.rising.pw (referP v) [] [] (fun p hp => by rw [← hs]; exact referP_lt hp) (seen_nil _)
  rw [List.nil_append] at this
  rw [← this]
  unfold referP
  rw [List.foldl_append]
  rfl
theorem pick1 {z : Zone} (ho : Ordered z) (p : Int) (hp : p < z.sets.length) : pickS z.sets [] [p] = addP z.sets [] p := by
  have := pick_add ho.rising.pw [p] [] [] (fun q hq => by simp at hq; rw [hq]; exact hp) (seen_nil _)
  rw [List.nil_append] at this
  rw [← this]; rfl
theorem pick2 {z : Zone} (ho : Ordered z) (p q : Int) (hp : p < z.sets.length) (hq : q < z.sets.length) : pickS z.sets [] [p, q] = addP z.sets (addP z.sets [] p) q := by
  have := pick_add ho.rising.pw [p, q] [] [] (fun r hr => by simp at hr; rcases hr with rfl | rfl <;> assumption) (seen_nil _)
  rw [List.nil_append] at this
  rw [← this]; rfl
theorem pick3 {z : Zone} (ho : Ordered z) (p q r : Int) (hp : p < z.sets.length) (hq : q < z.sets.length) (hr : r < z.sets.length) : pickS z.sets [] [p, q, r] = addP z.sets (addP z.sets (addP z.sets [] p) q) r := by
  have := pick_add ho.rising.pw [p, q, r] [] [] (fun x hx => by simp at hx; rcases hx with rfl | rfl | rfl <;> assumption) (seen_nil _)
  rw [List.nil_append] at this
  rw [← this]; rfl
theorem add_len {z : Zone} {q : Quest} : decide (((addR [] z q).length : Int) > 0) = decide (atI z.sets q ≥ 0) := by
  have h := atI_neg z.sets q
  cases hh : hasS z.sets q with
  | true =>
    obtain ⟨s, _, _, e⟩ := addR_nil hh
    rw [e]
    rw [hh] at h
    have : ¬ atI z.sets q < 0 := by simpa using h
    rw [decide_eq_true (by simp), decide_eq_true (by omega)]
  | false =>
    rw [addR_none hh]
    rw [hh] at h
    have : atI z.sets q < 0 := by simpa using h
    rw [decide_eq_false (by simp), decide_eq_false (by omega)]
theorem at_nil {z : Zone} (ho : Ordered z) (t : Int) : atI z.sets ⟨[], t⟩ < 0 := by
  have h := atI_neg z.sets ⟨[], t⟩
  cases hh : hasS z.sets ⟨[], t⟩ with
  | true =>
    obtain ⟨s, hs, hp⟩ := has_iff.1 hh
    have hv := ho.name s hs
    have : s.set.name = [] := congrArg Prod.fst hp
    rw [this] at hv; exact absurd rfl (valid_ne_nil hv)
  | false => rw [hh] at h; simpa using h
theorem rAns_eq {z : Zone} (hf : fewB z = true) (q : Quest) : rAnsR z q = ansR z q := by
  unfold rAnsR
  have hty : (decide (q.type < 1) || decide (q.type > 8)) = true → ansR z q = (ans0, 1) := fun h => by unfold ansR; rw [if_pos h]
  have hcu : ∀ c b e, (decide (q.type < 1) || decide (q.type > 8)) = false → cutR z q.name = (c, b, e) → ansR z q = if (e == 20) = true then (⟨7, [], []⟩, 0) else if (e != 0) = true then (ans0, e) else (ansV (viewOf z q c b), 0) := fun c b e h hc => by
    unfold ansR; rw [if_neg (by simp [h]), hc]
  cases hv : validZ z with
  | false =>
    rw [if_pos (by simp)]
    have hc : cutR z q.name = ([], false, 1) := by unfold cutR; rw [hv]; simp
    cases ht : (decide (q.type < 1) || decide (q.type > 8)) with
    | true => rw [hty ht]
    | false => rw [hcu _ _ _ ht hc]; rfl
  | true =>
  have ho := validZ_ordered hv
  cases hqn : validN q.name with
  | false =>
    have hqb : questB q = false := by unfold questB; rw [hqn]; rfl
    rw [if_pos (by rw [hqb]; rfl)]
    have hc : cutR z q.name = ([], false, 1) := by unfold cutR; rw [hqn]; simp
    cases ht : (decide (q.type < 1) || decide (q.type > 8)) with
    | true => rw [hty ht]
    | false => rw [hcu _ _ _ ht hc]; rfl
  | true =>
  cases ht : (decide (q.type < 1) || decide (q.type > 8)) with
  | true =>
    have hqb : questB q = false := by
      unfold questB; rw [hqn]
      simp at ht ⊢; omega
    rw [if_pos (by rw [hqb]; rfl), hty ht]
  | false =>
  have hqb : questB q = true := by
    unfold questB; rw [hqn]
    simp at ht ⊢; omega
  rw [if_neg (by rw [hqb]; simp)]
  cases hu : underN q.name z.apex with
  | false =>
    rw [if_pos (by simp)]
    have hc : cutR z q.name = ([], false, 20) := by unfold cutR; rw [hqn, hv, underR_eq hqn ho.apex, hu]; simp
    rw [hcu _ _ _ ht hc]; rfl
  | true =>
  rw [if_neg (by simp)]
  have hc := cutR_eq hv hqn hu
  have hR : ansR z q = (ansV (viewOf z q (cutOfR z q.name) (!(cutOfR z q.name == []))), 0) := by rw [hcu _ _ _ ht hc]; rfl
  rw [hR]
  have hval := val_iff.1 hv
  have hex : existsR z z.apex = true := has_exists hval.start
  generalize hcc : cutOfR z q.name = c
  have hcOk : c ≠ [] → validN c = true ∧ hasS z.sets ⟨c, 2⟩ = true := fun h => hcc ▸ cutOf_cut ho (hcc ▸ h)
  dsimp only
  generalize hvv : viewOf z q c (!(c == [])) = v
  have hsets : v.sets = z.sets := by rw [← hvv]; rfl
  have hvq : v.q = q := by rw [← hvv]; rfl
  have hvc : v.cut = c := by rw [← hvv]; rfl
  have hva : v.apex = z.apex := by rw [← hvv]; rfl
  have hwild : v.wild = [] := by rw [← hvv]; rfl
  have hrB : referB v = (!(c == []) && (!(c == q.name) || !specialQ q)) := by
    rw [← hvv]
    unfold referB atCutB specialQ viewOf
    dsimp only
    rw [Bool.beq_comm (a := q.name) (b := c)]
    cases (c == []) <;> cases (c == q.name) <;> simp
  unfold ansV
  rw [hrB]
  cases hr : (!(c == []) && (!(c == q.name) || !specialQ q)) with
  | true =>
    simp only [↓reduceIte]
    have hne : c ≠ [] := by intro e; rw [e] at hr; simp at hr
    obtain ⟨h1, h2⟩ := hcOk hne
    have := refer_eq (v := v) ho hf hsets (by rw [hvc]; exact h1) (by rw [hvc]; exact h2)
    unfold referA
    rw [hrB, hr, if_pos rfl, this, hvc]
  | false =>
  simp only [Bool.false_eq_true, ↓reduceIte]
  have hd : dataB v = decide (((addR [] z q).length : Int) > 0) := by unfold dataB; rw [add_len, hsets, hvq]
  rw [hd]
  cases hdd : decide (((addR [] z q).length : Int) > 0) with
  | true =>
    simp only [↓reduceIte]
    unfold dataA
    rw [hsets, hvq, pick1 ho _ (atI_lt _ _), addR_addP]
  | false =>
  simp only [Bool.false_eq_true, ↓reduceIte]
  have ha : aliasB v = (decide (((addR [] z ⟨q.name, 3⟩).length : Int) > 0) && (q.type != 8)) := by unfold aliasB; rw [add_len, hsets, hvq]
  rw [ha]
  cases haa : (decide (((addR [] z ⟨q.name, 3⟩).length : Int) > 0) && (q.type != 8)) with
  | true =>
    simp only [↓reduceIte]
    unfold aliasA
    rw [hsets, hvq, pick1 ho _ (atI_lt _ _), addR_addP]
  | false =>
  simp only [Bool.false_eq_true, ↓reduceIte]
  have hproof : pickS z.sets [] [startI v, covI v.sets v.q.name] = coverR (addR [] z ⟨z.apex, 4⟩) z q.name := by
    rw [pick2 ho _ _ (by unfold startI; rw [hsets]; exact atI_lt _ _) (by rw [hsets]; exact covI_lt _ _), coverR_addP ho.rising, addR_addP]
    unfold startI
    rw [hsets, hvq, hva]
  rw [hsets, hvq, exB_exists ho hqn]
  cases he : existsR z q.name with
  | true =>
    simp only [↓reduceIte]
    unfold noDataA
    rw [hsets, hvq, exB_exists ho hqn, he, if_pos rfl]
    rw [hsets, hvq] at hproof
    rw [← hproof]
  | false =>
  simp only [Bool.false_eq_true, ↓reduceIte]
  have hcl : closeB v.apex v.sets v.q.name = closestR z q.name := by
    unfold closeB closestR
    rw [hsets, hvq, hva]
    exact close_eq ho hex _ _ hqn hu
  have hnd : noDataV v = { v with wild := starR (closestR z q.name) } := by
    unfold noDataV
    rw [← hcl, hsets, hvq, exB_exists ho hqn, he, if_neg (by simp)]
  rw [hnd]
  generalize hst : starR (closestR z q.name) = w
  have hu2 : ({ v with wild := w } : View).sets = z.sets := hsets
  cases hj : ((joinR ([42] :: labs (closestR z q.name))).2 == 0) with
  | false =>
    have hw : w = [] := by rw [← hst]; exact star_err _ (by simpa using hj)
    rw [if_pos (by simp)]
    have h1 : wildB { v with wild := w } = false := by
      unfold wildB
      rw [hw]
      have := at_nil ho v.q.type
      rw [← hsets] at this
      exact decide_eq_false (by show ¬ (atI v.sets ⟨[], v.q.type⟩ ≥ 0); omega)
    have h2 : wildAliasB { v with wild := w } = false := by
      unfold wildAliasB
      rw [hw]
      have := at_nil ho 3
      rw [← hsets] at this
      rw [decide_eq_false (show ¬ (atI v.sets ⟨[], 3⟩ ≥ 0) by omega)]; rfl
    have h3 : wildNoB { v with wild := w } = false := by unfold wildNoB; rw [hw]; rfl
    rw [h1, h2, h3]
    simp only [Bool.false_eq_true, if_false]
    have : noNameA { v with wild := w } = ⟨6, pickS v.sets [] [startI v, covI v.sets v.q.name, -1], []⟩ := by
      unfold noNameA
      rw [if_pos hw]; rfl
    rw [this, hsets]
    rw [hsets] at hproof
    have hp3 : pickS z.sets [] [startI v, covI z.sets v.q.name, -1] = pickS z.sets [] [startI v, covI z.sets v.q.name] := by
      rw [pick3 ho _ _ _ (by unfold startI; rw [hsets]; exact atI_lt _ _) (covI_lt _ _) (by omega), pick2 ho _ _ (by unfold startI; rw [hsets]; exact atI_lt _ _) (covI_lt _ _)]
      unfold addP; rw [if_pos (by decide)]
    rw [hp3, hproof]
  | true =>
    rw [if_neg (by simp)]
    have hw : (joinR ([42] :: labs (closestR z q.name))).1 = w := hst
    have hwv : validN w = true := by
      rw [← hst]
      unfold starR
      have hj0 : (joinR ([42] :: labs (closestR z q.name))).2 = 0 := by simpa using hj
      unfold joinR at hj0 ⊢
      split
      · rename_i h; exact (join_ok h).1
      · rename_i h; rw [if_neg h] at hj0; simp at hj0
    have hwne := valid_ne_nil hwv
    rw [hw]
    (try dsimp only)
    have h1 : wildB { v with wild := w } = decide (((addR [] z ⟨w, q.type⟩).length : Int) > 0) := by
      unfold wildB; rw [add_len]; show decide (atI v.sets ⟨w, v.q.type⟩ ≥ 0) = _; rw [hsets, hvq]
    have h2 : wildAliasB { v with wild := w } = (decide (((addR [] z ⟨w, 3⟩).length : Int) > 0) && (q.type != 8)) := by
      unfold wildAliasB; rw [add_len]; show (decide (atI v.sets ⟨w, 3⟩ ≥ 0) && (v.q.type != 8)) = _; rw [hsets, hvq]
    have h3 : wildNoB { v with wild := w } = existsR z w := by
      unfold wildNoB
      show (!(w == []) && exB v.sets w) = _
      rw [hsets, exB_exists ho hwv]
      have : (w == []) = false := by simpa using hwne
      rw [this]; rfl
    rw [h1, h2, h3]
    cases hdw : decide (((addR [] z ⟨w, q.type⟩).length : Int) > 0) with
    | true =>
      simp only [↓reduceIte]
      show ((⟨2, coverR (addR [] z ⟨w, q.type⟩) z q.name, []⟩ : Ans), (0 : Int)) = (⟨2, pickS v.sets [] [atI v.sets ⟨w, v.q.type⟩, covI v.sets v.q.name], []⟩, 0)
      rw [hsets, hvq, pick2 ho _ _ (atI_lt _ _) (covI_lt _ _), coverR_addP ho.rising, addR_addP]
    | false =>
    simp only [Bool.false_eq_true, ↓reduceIte]
    cases haw : (decide (((addR [] z ⟨w, 3⟩).length : Int) > 0) && (q.type != 8)) with
    | true =>
      simp only [↓reduceIte]
      show ((⟨3, coverR (addR [] z ⟨w, 3⟩) z q.name, []⟩ : Ans), (0 : Int)) = (⟨3, pickS v.sets [] [atI v.sets ⟨w, 3⟩, covI v.sets v.q.name], []⟩, 0)
      rw [hsets, hvq, pick2 ho _ _ (atI_lt _ _) (covI_lt _ _), coverR_addP ho.rising, addR_addP]
    | false =>
    simp only [Bool.false_eq_true, ↓reduceIte]
    have hp3 : coverR (coverR (addR [] z ⟨z.apex, 4⟩) z q.name) z w = pickS v.sets [] [startI v, covI v.sets v.q.name, covI v.sets w] := by
      rw [hsets, pick3 ho _ _ _ (by unfold startI; rw [hsets]; exact atI_lt _ _) (covI_lt _ _) (covI_lt _ _), coverR_addP ho.rising, coverR_addP ho.rising, addR_addP]
      unfold startI
      rw [hsets, hvq, hva]
    cases hew : existsR z w with
    | true =>
      simp only [Bool.false_eq_true, ↓reduceIte]; rw [hp3]
      unfold wildNoA
      rw [h3, hew, if_pos rfl]
      rfl
    | false =>
      simp only [Bool.false_eq_true, ↓reduceIte]; rw [hp3]
      show _ = (noNameA { v with wild := w }, (0 : Int))
      unfold noNameA
      rw [if_neg hwne]
      rfl
end NP

/-
  Plain: the sets of an answer are sets of the zone, no two of one place.
-/
set_option linter.unusedSimpArgs false
set_option linter.unusedVariables false
set_option maxRecDepth 100000
namespace NP
open NQ Go
theorem pick_len (l : List Signed) : ∀ (ps seen : List Int), (pickS l seen ps).length ≤ ps.length
  | [], _ => by simp [pickS]
  | p :: t, seen => by
    have := pick_len l t (seen ++ [p])
    rw [pickS]
    split
    · rw [List.length_cons]; omega
    · rw [List.length_cons, List.length_cons]; omega
theorem pick_mem {l : List Signed} : ∀ {ps seen : List Int}, (∀ p ∈ ps, p < l.length) → ∀ s ∈ pickS l seen ps, ∃ p ∈ ps, p ∉ seen ∧ 0 ≤ p ∧ l[p.toNat]? = some s
  | [], _, _, s, hs => by simp [pickS] at hs
  | p :: t, seen, hp, s, hs => by
    rw [pickS] at hs
    split at hs
    · obtain ⟨q, h1, h2, h3⟩ := pick_mem (fun q hq => hp q (List.mem_cons_of_mem _ hq)) s hs
      exact ⟨q, List.mem_cons_of_mem _ h1, fun e => h2 (List.mem_append.2 (.inl e)), h3⟩
    · rename_i hc
      simp only [Bool.or_eq_true, decide_eq_true_eq, List.contains_iff_mem, not_or] at hc
      have hlt := hp p (List.mem_cons_self ..)
      obtain ⟨x, hx⟩ : ∃ x, l[p.toNat]? = some x := ⟨_, List.getElem?_eq_getElem (by omega)⟩
      rw [hx] at hs
      rcases List.mem_cons.1 hs with e | hs
      · have e : s = x := e
        subst e
        exact ⟨p, List.mem_cons_self .., hc.2, by omega, hx⟩
      · obtain ⟨q, h1, h2, h3⟩ := pick_mem (fun q hq => hp q (List.mem_cons_of_mem _ hq)) s hs
        exact ⟨q, List.mem_cons_of_mem _ h1, fun e => h2 (List.mem_append.2 (.inl e)), h3⟩
theorem pick_apart {l : List Signed} (hr : RP l) : ∀ {ps seen : List Int}, (∀ p ∈ ps, p < l.length) → (pickS l seen ps).Pairwise fun a b => a.place ≠ b.place
  | [], _, _ => by simp [pickS]
  | p :: t, seen, hp => by
    have hpt : ∀ q ∈ t, q < l.length := fun q hq => hp q (List.mem_cons_of_mem _ hq)
    rw [pickS]
    split
    · exact pick_apart hr hpt
    · rename_i hc
      simp only [Bool.or_eq_true, decide_eq_true_eq, List.contains_iff_mem, not_or] at hc
      have hlt := hp p (List.mem_cons_self ..)
      obtain ⟨x, hx⟩ : ∃ x, l[p.toNat]? = some x := ⟨_, List.getElem?_eq_getElem (by omega)⟩
      rw [hx]
      refine List.pairwise_cons.2 ⟨fun b hb e => ?_, pick_apart hr hpt⟩
      obtain ⟨q, h1, h2, h3, h4⟩ := pick_mem hpt b hb
      have := place_inj hr hx h4 e
      exact h2 (List.mem_append.2 (.inr (by simp; omega)))
theorem noData_sets (v : View) : (noDataV v).sets = v.sets := by unfold noDataV; split <;> rfl
theorem ansV_places {v : View} (hd : (servD v).length ≤ 900) : ∃ ps : List Int, (∀ p ∈ ps, p < v.sets.length) ∧ ps.length ≤ 1000 ∧ (ansV v).sets = pickS v.sets [] ps := by
  have e := noData_sets v
  have hl := hostI_len v (servD v)
  unfold ansV
  split
  · rename_i h
    refine ⟨referP v, fun p hp => referP_lt hp, ?_, ?_⟩
    · unfold referP; simp; omega
    · unfold referA; rw [if_pos h]
  split
  · exact ⟨_, by simp [atI_lt], by simp, rfl⟩
  split
  · exact ⟨_, by simp [atI_lt], by simp, rfl⟩
  split
  · rename_i h
    refine ⟨[startI v, covI v.sets v.q.name], by simp [startI, atI_lt, covI_lt], by simp, ?_⟩
    unfold noDataA; rw [if_pos h]
  split
  · refine ⟨[_, _], ?_, by simp, by unfold wildA; rw [e]⟩
    intro p hp; simp only [List.mem_cons, List.not_mem_nil, or_false] at hp
    rcases hp with rfl | rfl
    · exact atI_lt _ _
    · exact covI_lt _ _
  split
  · refine ⟨[_, _], ?_, by simp, by unfold wildAliasA; rw [e]⟩
    intro p hp; simp only [List.mem_cons, List.not_mem_nil, or_false] at hp
    rcases hp with rfl | rfl
    · exact atI_lt _ _
    · exact covI_lt _ _
  split
  · rename_i h
    refine ⟨[_, _, _], ?_, by simp, by unfold wildNoA; rw [if_pos h, e]⟩
    intro p hp; simp only [List.mem_cons, List.not_mem_nil, or_false] at hp
    rcases hp with rfl | rfl | rfl
    · unfold startI; rw [e]; exact atI_lt _ _
    · exact covI_lt _ _
    · exact covI_lt _ _
  · refine ⟨[_, _, _], ?_, by simp, by unfold noNameA; rw [e]⟩
    intro p hp; simp only [List.mem_cons, List.not_mem_nil, or_false] at hp
    have hpos : (0 : Int) ≤ v.sets.length := by omega
    rcases hp with rfl | rfl | rfl
    · unfold startI; rw [e]; exact atI_lt _ _
    · exact covI_lt _ _
    · split
      · omega
      · exact covI_lt _ _
theorem ans_places {z : Zone} (hf : fewB z = true) (q : Quest) : ∃ ps : List Int, (∀ p ∈ ps, p < z.sets.length) ∧ ps.length ≤ 1000 ∧ (ansR z q).1.sets = pickS z.sets [] ps := by
  have none : ∃ ps : List Int, (∀ p ∈ ps, p < z.sets.length) ∧ ps.length ≤ 1000 ∧ ([] : List Signed) = pickS z.sets [] ps := ⟨[], by simp, by simp, rfl⟩
  unfold ansR
  split
  · exact none
  split
  · exact none
  split
  · exact none
  · refine ansV_places (v := viewOf z q _ _) ?_
    unfold servD
    split
    · rename_i s hs
      have := ((fewB_facts hf).2 s (List.mem_of_getElem? hs)).1
      omega
    · simp
theorem ans_mem {z : Zone} (hf : fewB z = true) (q : Quest) : ∀ s ∈ (ansR z q).1.sets, s ∈ z.sets := by
  obtain ⟨ps, h1, _, h3⟩ := ans_places hf q
  rw [h3]
  intro s hs
  obtain ⟨p, _, _, _, h⟩ := pick_mem h1 s hs
  exact List.mem_of_getElem? h
theorem ans_len {z : Zone} (hf : fewB z = true) (q : Quest) : (ansR z q).1.sets.length ≤ 1000 := by
  obtain ⟨ps, h1, h2, h3⟩ := ans_places hf q
  rw [h3]
  have := pick_len z.sets ps []
  omega
theorem ans_apart {z : Zone} (hf : fewB z = true) (hv : validZ z = true) (q : Quest) : (ansR z q).1.sets.Pairwise fun a b => a.place ≠ b.place := by
  obtain ⟨ps, h1, h2, h3⟩ := ans_places hf q
  rw [h3]
  exact pick_apart (validZ_ordered hv).rising.pw h1
theorem ans_small {z : Zone} (hf : fewB z = true) (q : Quest) : ∀ s ∈ (ansR z q).1.sets, s.set.data.length ≤ 100000 ∧ s.sigs.length ≤ 100000 := fun s hs => by
  have := (fewB_facts hf).2 s (ans_mem hf q s hs)
  omega
end NP

/-
  Plain: what the answer is for a zone and a question that are usable.
-/
set_option linter.unusedSimpArgs false
set_option linter.unusedVariables false
set_option maxRecDepth 100000
namespace NP
open NQ Go
/-- A zone and a question that the laws speak of. -/
structure Use (z : Zone) (q : Quest) : Prop where
  few : fewB z = true
  val : validZ z = true
  quest : questB q = true
  under : underN q.name z.apex = true
theorem use_of {z : Zone} {q : Quest} (h : (fewB z && validZ z && questB q && underN q.name z.apex) = true) : Use z q := by
  simp only [Bool.and_eq_true] at h
  exact ⟨h.1.1.1, h.1.1.2, h.1.2, h.2⟩
theorem Use.name {z : Zone} {q : Quest} (u : Use z q) : validN q.name = true := by have := u.quest; unfold questB at this; simp only [Bool.and_eq_true] at this; exact this.1.1
theorem Use.ord {z : Zone} {q : Quest} (u : Use z q) : Ordered z := validZ_ordered u.val
def vw (z : Zone) (q : Quest) : View := viewOf z q (cutOfR z q.name) (!(cutOfR z q.name == []))
theorem Use.cut {z : Zone} {q : Quest} (u : Use z q) : cutR z q.name = (cutOfR z q.name, !(cutOfR z q.name == []), 0) := cutR_eq u.val u.name u.under
theorem Use.ans {z : Zone} {q : Quest} (u : Use z q) : ansR z q = (ansV (vw z q), 0) := by
  have hq := u.quest
  unfold questB at hq
  simp only [Bool.and_eq_true, decide_eq_true_eq] at hq
  unfold ansR
  rw [if_neg (by simp; omega), u.cut]
  rfl
theorem vw_sets (z : Zone) (q : Quest) : (vw z q).sets = z.sets := rfl
theorem vw_refer (z : Zone) (q : Quest) : referB (vw z q) = (!(cutOfR z q.name == []) && !((cutOfR z q.name == q.name) && specialQ q)) := by
  unfold referB atCutB specialQ vw viewOf
  dsimp only
  rw [Bool.beq_comm (a := q.name) (b := cutOfR z q.name)]
  cases (cutOfR z q.name == []) <;> cases (cutOfR z q.name == q.name) <;> simp
/-- Which kind an answer has. -/
theorem ansV_kind (v : View) : (ansV v).kind = if referB v = true then 4 else if dataB v = true then 1 else if aliasB v = true then 3 else if exB v.sets v.q.name = true then 5
    else if wildB (noDataV v) = true then 2 else if wildAliasB (noDataV v) = true then 3 else if wildNoB (noDataV v) = true then 5 else 6 := by
  unfold ansV
  split
  · rename_i h; unfold referA; rw [if_pos h]
  split
  · rfl
  split
  · rfl
  split
  · rename_i h; unfold noDataA; rw [if_pos h]
  split
  · rfl
  split
  · rfl
  split
  · rename_i h; unfold wildNoA; rw [if_pos h]
  · rfl
theorem data_has (z : Zone) (q : Quest) : dataB (vw z q) = hasS z.sets q := by
  have h := atI_neg z.sets q
  show decide (atI z.sets q ≥ 0) = _
  cases hh : hasS z.sets q with
  | true =>
    rw [hh] at h
    have : ¬ atI z.sets q < 0 := by simpa using h
    exact decide_eq_true (by omega)
  | false =>
    rw [hh] at h
    have : atI z.sets q < 0 := by simpa using h
    exact decide_eq_false (by omega)
theorem Use.kind1 {z : Zone} {q : Quest} (u : Use z q) : (ansR z q).1.kind = 1 ↔ referB (vw z q) = false ∧ hasS z.sets q = true := by
  rw [u.ans]
  show (ansV (vw z q)).kind = 1 ↔ _
  rw [ansV_kind, data_has]
  cases hr : referB (vw z q) with
  | true => simp
  | false =>
    cases hd : hasS z.sets q with
    | true => simp
    | false =>
      simp only [Bool.false_eq_true, ↓reduceIte, and_false, iff_false]
      repeat' split
      all_goals omega
theorem pick_one {z : Zone} (ho : Ordered z) {q : Quest} {s : Signed} (hs : s ∈ z.sets) (hp : s.place = q.place) : pickS z.sets [] [atI z.sets q] = [s] := by
  obtain ⟨k, t, h1, h2, h3⟩ := at_is (has_iff.2 ⟨s, hs, hp⟩)
  have : t = s := RP.uniq ho.rising.pw (List.mem_of_getElem? h2) hs (h3.trans hp.symm)
  subst this
  rw [h1, pickS]
  simp [h2, pickS]
theorem Use.data {z : Zone} {q : Quest} (u : Use z q) (hr : referB (vw z q) = false) {s : Signed} (hs : s ∈ z.sets) (hp : s.place = q.place) : (ansR z q).1 = ⟨1, [s], []⟩ := by
  rw [u.ans]
  show ansV (vw z q) = _
  unfold ansV
  rw [if_neg (by simp [hr]), if_pos (by rw [data_has]; exact has_iff.2 ⟨s, hs, hp⟩)]
  unfold dataA
  have := pick_one u.ord hs hp
  show (⟨1, pickS z.sets [] [atI z.sets q], []⟩ : Ans) = _
  rw [this]
/-- What is found. -/
theorem Use.find {z : Zone} {q : Quest} (u : Use z q) : ∃ s has, findR z q = (s, has, 0) ∧ has = hasS z.sets q ∧ (has = true → s ∈ z.sets ∧ s.place = q.place) := by
  cases hh : hasS z.sets q with
  | true =>
    obtain ⟨s, h1, h2, h3⟩ := find_is u.val u.quest hh
    exact ⟨s, true, h3, rfl, fun _ => ⟨h1, h2⟩⟩
  | false => exact ⟨_, false, find_not u.val u.quest hh, rfl, fun h => by cases h⟩
end NP

/-
  Plain: referrals.
-/
set_option linter.unusedSimpArgs false
set_option linter.unusedVariables false
set_option maxRecDepth 100000
namespace NP
open NQ Go
theorem ansV_cut {v : View} (h : referB v = false) : (ansV v).cut = [] := by
  unfold ansV
  rw [if_neg (by simp [h])]
  repeat' split
  all_goals first | rfl | skip
  · unfold noDataA; split <;> rfl
  · unfold wildNoA; split <;> rfl
theorem Use.norefer {z : Zone} {q : Quest} (u : Use z q) (hr : referB (vw z q) = false) : ((ansR z q).1.kind == 4) = false ∧ (ansR z q).1.cut = [] := by
  rw [u.ans]
  refine ⟨?_, ansV_cut hr⟩
  show ((ansV (vw z q)).kind == 4) = false
  rw [ansV_kind, hr]
  simp only [Bool.false_eq_true, ↓reduceIte]
  repeat' split
  all_goals rfl
theorem Use.refer {z : Zone} {q : Quest} (u : Use z q) (hr : referB (vw z q) = true) : ∃ s0 R, s0 ∈ z.sets ∧ s0.place = (cutOfR z q.name, 2) ∧ (ansR z q).1 = ⟨4, s0 :: R, cutOfR z q.name⟩ ∧
    ∀ s ∈ R, (s.set.type = 6 ∧ s.set.name = cutOfR z q.name) ∨ (s.set.type = 8 ∧ s.set.name = cutOfR z q.name) ∨ (s.set.type = 1 ∧ underR s.set.name (cutOfR z q.name) = (true, 0) ∧ s0.set.data.any (fun d => d.text == s.set.name) = true) := by
  have hne : cutOfR z q.name ≠ [] := by
    intro e; rw [vw_refer, e] at hr; cases hr
  obtain ⟨hcv, hcut⟩ := cutOf_cut u.ord hne
  have ho := u.ord
  obtain ⟨k, s0, h1, h2, h3⟩ := at_is hcut
  have hm0 := List.mem_of_getElem? h2
  have hserv : servI (vw z q) = ((k : Nat) : Int) := h1
  have hsd : servD (vw z q) = s0.set.data := by
    unfold servD
    rw [hserv]
    show (match z.sets[((k : Nat) : Int).toNat]? with | some s => s.set.data | none => []) = _
    rw [show ((k : Nat) : Int).toNat = k by simp, h2]
  have hlt : ∀ p ∈ referP (vw z q), p < z.sets.length := fun p hp => referP_lt (v := vw z q) hp
  have e1 : pickS z.sets [] (referP (vw z q)) = s0 :: pickS z.sets [servI (vw z q)] (proofI (vw z q) :: hostI (vw z q) (servD (vw z q))) := by
    unfold referP
    rw [show [servI (vw z q), proofI (vw z q)] ++ hostI (vw z q) (servD (vw z q)) = servI (vw z q) :: (proofI (vw z q) :: hostI (vw z q) (servD (vw z q))) from rfl, pickS, if_neg (by rw [hserv]; simp)]
    rw [hserv]
    simp [h2]
  refine ⟨s0, pickS z.sets [servI (vw z q)] (proofI (vw z q) :: hostI (vw z q) (servD (vw z q))), hm0, h3, ?_, fun s hs => ?_⟩
  · rw [u.ans]
    show ansV (vw z q) = _
    unfold ansV
    rw [if_pos hr]
    unfold referA
    rw [if_pos hr]
    show (⟨4, pickS z.sets [] (referP (vw z q)), cutOfR z q.name⟩ : Ans) = _
    rw [e1]
  · obtain ⟨p, hp1, hp2, hp3, hp4⟩ := pick_mem (fun p hp => hlt p (by unfold referP; exact List.mem_cons_of_mem _ hp)) s hs
    have hsm := List.mem_of_getElem? hp4
    have atp : ∀ q' : Quest, p = atI z.sets q' → s.place = q'.place := fun q' e => by
      have hh : hasS z.sets q' = true := by
        have := atI_neg z.sets q'
        cases hc : hasS z.sets q' with
        | true => rfl
        | false => rw [hc] at this; simp at this; omega
      obtain ⟨j, t, a1, a2, a3⟩ := at_is hh
      rw [a1] at e
      have : p.toNat = j := by omega
      rw [this, a2] at hp4; cases hp4; exact a3
    rcases List.mem_cons.1 hp1 with hp | hp
    · unfold proofI at hp
      split at hp
      · have := atp ⟨cutOfR z q.name, 8⟩ hp
        exact .inr (.inl ⟨congrArg Prod.snd this, congrArg Prod.fst this⟩)
      · have := atp ⟨cutOfR z q.name, 6⟩ hp
        exact .inl ⟨congrArg Prod.snd this, congrArg Prod.fst this⟩
    · unfold hostI at hp
      obtain ⟨d, hd, hx⟩ := List.mem_flatMap.1 hp
      split at hx
      · rename_i hu
        simp at hx
        have := atp ⟨d.text, 1⟩ hx
        have hn : s.set.name = d.text := congrArg Prod.fst this
        refine .inr (.inr ⟨congrArg Prod.snd this, ?_, ?_⟩)
        · have hv := ho.name s hsm
          have hu' : (underR d.text (cutOfR z q.name)).1 = true := hu
          rw [← hn] at hu'
          unfold underR at hu' ⊢
          rw [if_pos ⟨hv, hcv⟩] at hu' ⊢
          simp only at hu'
          rw [hu']
        · rw [hsd] at hd
          exact List.any_eq_true.2 ⟨d, hd, by rw [hn]; simp⟩
      · cases hx
end NP

/-
  Plain: answers of a zone into which a set is put, or from which one is dropped; wildcards; names that do not exist.
-/
set_option linter.unusedSimpArgs false
set_option linter.unusedVariables false
set_option maxRecDepth 100000
namespace NP
open NQ Go
theorem ans_val {z : Zone} {q : Quest} (hv : validZ z = true) (hq : questB q = true) (hu : underN q.name z.apex = true) : ansR z q = (ansV (vw z q), 0) := by
  have hn : validN q.name = true := by have := hq; unfold questB at this; simp only [Bool.and_eq_true] at this; exact this.1.1
  have hq' := hq
  unfold questB at hq'
  simp only [Bool.and_eq_true, decide_eq_true_eq] at hq'
  unfold ansR
  rw [if_neg (by simp; omega), cutR_eq hv hn hu]
  rfl
theorem cutsL_congr {z y : Zone} (ha : y.apex = z.apex) (h : ∀ s : Signed, s.set.type = 2 → (s ∈ y.sets ↔ s ∈ z.sets)) (c : Bs) : c ∈ cutsL y.apex y.sets ↔ c ∈ cutsL z.apex z.sets := by
  rw [cutsL_iff, cutsL_iff, ha]
  have ht : ∀ s : Signed, isCutAt z.apex s = true → s.set.type = 2 := fun s hs => by unfold isCutAt at hs; simp only [Bool.and_eq_true, beq_iff_eq] at hs; exact hs.1
  constructor
  · rintro ⟨s, h1, h2, h3⟩; exact ⟨s, (h s (ht s h2)).1 h1, h2, h3⟩
  · rintro ⟨s, h1, h2, h3⟩; exact ⟨s, (h s (ht s h2)).2 h1, h2, h3⟩
theorem cutOf_congr {z y : Zone} (hz : validZ z = true) (hy : validZ y = true) (ha : y.apex = z.apex) (h : ∀ s : Signed, s.set.type = 2 → (s ∈ y.sets ↔ s ∈ z.sets)) (n : Bs) : cutOfR y n = cutOfR z n := by
  rw [cutOf_eq hy, cutOf_eq hz]
  exact (spec_congr (validZ_ordered hz) (validZ_ordered hy) (fun c => (cutsL_congr ha h c).symm) n).symm
theorem put_mem {z : Zone} (ho : Ordered z) (s : Signed) (y : Signed) : y ∈ (putZ z s).sets ↔ y = s ∨ (y ∈ z.sets ∧ y.place ≠ s.place) := by
  rw [putZ_sets ho, mem_ins s ho.rising.pw]
theorem put_two {z : Zone} (ho : Ordered z) {s : Signed} (ht : s.set.type ≠ 2) (y : Signed) (hy : y.set.type = 2) : y ∈ (putZ z s).sets ↔ y ∈ z.sets := by
  rw [put_mem ho]
  constructor
  · rintro (rfl | ⟨h, _⟩)
    · exact absurd hy ht
    · exact h
  · intro h
    refine .inr ⟨h, fun e => ht ?_⟩
    have : y.set.type = s.set.type := congrArg Prod.snd e
    rw [← this]; exact hy
theorem put_hasS {z : Zone} (ho : Ordered z) {s : Signed} {q : Quest} (hne : s.place ≠ q.place) : hasS (putZ z s).sets q = hasS z.sets q := by
  rw [Bool.eq_iff_iff, has_iff, has_iff]
  constructor
  · rintro ⟨y, h1, h2⟩
    rcases (put_mem ho s y).1 h1 with rfl | ⟨h, _⟩
    · exact absurd h2 hne
    · exact ⟨y, h, h2⟩
  · rintro ⟨y, h1, h2⟩
    exact ⟨y, (put_mem ho s y).2 (.inr ⟨h1, fun e => hne (e.symm.trans h2)⟩), h2⟩
theorem vw_refer_congr {z y : Zone} {q : Quest} (h : cutOfR y q.name = cutOfR z q.name) : referB (vw y q) = referB (vw z q) := by rw [vw_refer, vw_refer, h]
theorem kind5 {y : Zone} {q : Quest} (hv : validZ y = true) (hq : questB q = true) (hu : underN q.name y.apex = true) (hr : referB (vw y q) = false) (hd : hasS y.sets q = false) (ha : hasS y.sets ⟨q.name, 3⟩ = false) (he : existsR y q.name = true) :
    ∃ a, ansR y q = (a, 0) ∧ a.kind = 5 := by
  have hn : validN q.name = true := by have := hq; unfold questB at this; simp only [Bool.and_eq_true] at this; exact this.1.1
  refine ⟨_, ans_val hv hq hu, ?_⟩
  have hal : aliasB (vw y q) = false := by
    have := data_has y ⟨q.name, 3⟩
    unfold aliasB
    have e : decide (atI (vw y q).sets ⟨(vw y q).q.name, 3⟩ ≥ 0) = hasS y.sets ⟨q.name, 3⟩ := this
    rw [e, ha]; rfl
  have hex : exB (vw y q).sets (vw y q).q.name = true := by
    show exB y.sets q.name = true
    rw [exB_exists (validZ_ordered hv) hn]; exact he
  rw [ansV_kind, hr, data_has, hd, hal, hex]
  simp
theorem exists_name {z : Zone} {n : Bs} {s : Signed} (hs : s ∈ z.sets) (hu : underN s.set.name n = true) : existsR z n = true := List.any_eq_true.2 ⟨s, hs, hu⟩
theorem no_name {z : Zone} {n : Bs} (h : existsR z n = false) (t : Int) : hasS z.sets ⟨n, t⟩ = false := by
  cases hh : hasS z.sets ⟨n, t⟩ with
  | false => rfl
  | true => have := has_exists hh; rw [h] at this; cases this
/-- A set of the name, of another type, comes to a zone that has no such name. -/
theorem put_name {z : Zone} {q : Quest} {s : Signed} (u : Use z q) (hr : referB (vw z q) = false) (he : existsR z q.name = false) (h : (putR z s).2 = 0) (ht2 : s.set.type ≠ 2) (hne : s.place ≠ q.place) (h3 : s.place ≠ (q.name, 3)) (hun : underN s.set.name q.name = true) :
    putR z s = (putZ z s, 0) ∧ (putZ z s).sets.length ≤ 10000 ∧ ∃ a, ansR (putZ z s) q = (a, 0) ∧ a.kind = 5 := by
  obtain ⟨h1, h2, hv⟩ := put_valid u.val h
  have ho := u.ord
  have hlen := put_len ho s
  have hf := (fewB_facts u.few).1
  have hcut := cutOf_congr u.val hv rfl (put_two ho ht2) q.name
  refine ⟨h1, by omega, kind5 hv u.quest u.under (by rw [vw_refer_congr hcut]; exact hr) ?_ ?_ ?_⟩
  · rw [put_hasS ho hne]; exact no_name he q.type
  · rw [put_hasS ho (q := ⟨q.name, 3⟩) h3]; exact no_name he 3
  · exact exists_name ((put_mem ho s s).2 (.inl rfl)) hun
theorem star_wild {m : Bs} (h : starR m ≠ []) : wildN (starR m) = true := by
  unfold starR at h ⊢
  unfold joinR at h ⊢
  split
  · show wildN (nameOf ([42] :: labs m)) = true
    rw [nameOf_ne (by simp)]
    cases labs m with
    | nil => rfl
    | cons x t => rw [joinDot_cons _ _ (by simp)]; rfl
  · rename_i hc; rw [if_neg hc] at h; exact absurd rfl h
theorem wild_star {v : View} (hx : exB v.sets v.q.name = false) : (noDataV v).wild = starR (closeB v.apex v.sets v.q.name) := by
  unfold noDataV; rw [if_neg (by simp [hx])]
theorem star_ok' (n : Bs) : starR n = [] ∨ validN (starR n) = true := by
  unfold starR
  unfold joinR
  split
  · rename_i h; exact .inr (join_ok h).1
  · exact .inl rfl
theorem Use.wild {z : Zone} {q : Quest} (u : Use z q) (hk : (ansR z q).1.kind = 2) : referB (vw z q) = false ∧ existsR z q.name = false ∧ ∃ s0 R, (ansR z q).1.sets = s0 :: R ∧ wildN s0.set.name = true ∧ s0.set.type = q.type := by
  have ho := u.ord
  rw [u.ans] at hk ⊢
  have hk' : (ansV (vw z q)).kind = 2 := hk
  rw [ansV_kind] at hk'
  cases hr : referB (vw z q) with
  | true => rw [hr] at hk'; simp at hk'
  | false =>
  cases hd : dataB (vw z q) with
  | true => rw [hr, hd] at hk'; simp at hk'
  | false =>
  cases ha : aliasB (vw z q) with
  | true => rw [hr, hd, ha] at hk'; simp at hk'
  | false =>
  cases hx : exB (vw z q).sets (vw z q).q.name with
  | true => rw [hr, hd, ha, hx] at hk'; simp at hk'
  | false =>
  cases hw : wildB (noDataV (vw z q)) with
  | false =>
    rw [hr, hd, ha, hx, hw] at hk'
    simp only [Bool.false_eq_true, ↓reduceIte] at hk'
    exfalso
    revert hk'
    repeat' split
    all_goals omega
  | true =>
  have hx' : existsR z q.name = false := by rw [← exB_exists ho u.name]; exact hx
  refine ⟨rfl, hx', ?_⟩
  have hans : ansV (vw z q) = wildA (noDataV (vw z q)) := by
    unfold ansV
    rw [if_neg (by simp [hr]), if_neg (by simp [hd]), if_neg (by simp [ha]), if_neg (by simp [hx]), if_pos hw]
  have hq : (noDataV (vw z q)).q = q := by unfold noDataV; split <;> rfl
  have hs : (noDataV (vw z q)).sets = z.sets := noData_sets _
  have hat : 0 ≤ atI z.sets ⟨(noDataV (vw z q)).wild, q.type⟩ := by
    unfold wildB at hw
    rw [hs, hq] at hw
    simpa using hw
  obtain ⟨k, s, h1, h2, h3⟩ := at_is (l := z.sets) (q := ⟨(noDataV (vw z q)).wild, q.type⟩) (by
    have := atI_neg z.sets ⟨(noDataV (vw z q)).wild, q.type⟩
    cases hh : hasS z.sets ⟨(noDataV (vw z q)).wild, q.type⟩ with
    | true => rfl
    | false => rw [hh] at this; simp at this; omega)
  have hsn : s.set.name = (noDataV (vw z q)).wild := congrArg Prod.fst h3
  have hst : s.set.type = q.type := congrArg Prod.snd h3
  refine ⟨s, pickS z.sets ([] ++ [((k : Nat) : Int)]) [covI z.sets q.name], ?_, ?_, hst⟩
  · show (ansV (vw z q)).sets = _
    rw [hans]
    unfold wildA
    rw [hs, hq, h1]
    show pickS z.sets [] [((k : Nat) : Int), covI z.sets q.name] = _
    rw [pickS, if_neg (by simp)]
    simp [h2]
  · rw [hsn, wild_star hx]
    refine star_wild ?_
    rw [← wild_star hx, ← hsn]
    exact valid_ne_nil (ho.name s (List.mem_of_getElem? h2))
/-- A name that does not exist. -/
theorem Use.none {z : Zone} {q : Quest} (u : Use z q) (hk : (ansR z q).1.kind = 6) : existsR z q.name = false ∧ cutOfR z q.name = [] ∧ ((noDataV (vw z q)).wild = [] ∨ existsR z (noDataV (vw z q)).wild = false) := by
  have ho := u.ord
  rw [u.ans] at hk
  have hk' : (ansV (vw z q)).kind = 6 := hk
  rw [ansV_kind] at hk'
  cases hr : referB (vw z q) with
  | true => rw [hr] at hk'; simp at hk'
  | false =>
  cases hd : dataB (vw z q) with
  | true => rw [hr, hd] at hk'; simp at hk'
  | false =>
  cases ha : aliasB (vw z q) with
  | true => rw [hr, hd, ha] at hk'; simp at hk'
  | false =>
  cases hx : exB (vw z q).sets (vw z q).q.name with
  | true => rw [hr, hd, ha, hx] at hk'; simp at hk'
  | false =>
  have hx' : existsR z q.name = false := by rw [← exB_exists ho u.name]; exact hx
  cases hw : wildB (noDataV (vw z q)) with
  | true => rw [hr, hd, ha, hx, hw] at hk'; simp at hk'
  | false =>
  cases hwa : wildAliasB (noDataV (vw z q)) with
  | true => rw [hr, hd, ha, hx, hw, hwa] at hk'; simp at hk'
  | false =>
  cases hwn : wildNoB (noDataV (vw z q)) with
  | true => rw [hr, hd, ha, hx, hw, hwa, hwn] at hk'; simp at hk'
  | false =>
  refine ⟨hx', ?_, ?_⟩
  · cases hc : (cutOfR z q.name == []) with
    | true => simpa using hc
    | false =>
      have hne : cutOfR z q.name ≠ [] := by simpa using hc
      rw [vw_refer, hc] at hr
      simp only [Bool.not_false, Bool.true_and, Bool.not_eq_false', Bool.and_eq_true, beq_iff_eq] at hr
      obtain ⟨_, h2⟩ := cutOf_cut ho hne
      have := has_exists h2
      rw [hr.1] at this
      rw [hx'] at this; cases this
  · unfold wildNoB at hwn
    rw [noData_sets] at hwn
    cases hw0 : ((noDataV (vw z q)).wild == []) with
    | true => exact .inl (by simpa using hw0)
    | false =>
      rw [hw0] at hwn
      have hwne : (noDataV (vw z q)).wild ≠ [] := by simpa using hw0
      have hwv : validN (noDataV (vw z q)).wild = true := by
        rw [wild_star hx] at hwne ⊢
        have := star_ok' (closeB (vw z q).apex (vw z q).sets (vw z q).q.name)
        exact this.resolve_left hwne
      refine .inr ?_
      rw [← exB_exists ho hwv]
      have h5 : (!false && exB (vw z q).sets (noDataV (vw z q)).wild) = false := hwn
      rw [Bool.not_false, Bool.true_and] at h5
      exact h5
theorem Use.none_all {z : Zone} {q : Quest} (u : Use z q) (hk : (ansR z q).1.kind = 6) (t : Int) (ht : 1 ≤ t ∧ t ≤ 8) : (ansR z ⟨q.name, t⟩).1.kind = 6 ∧ (ansR z ⟨q.name, t⟩).2 = 0 := by
  have ho := u.ord
  obtain ⟨h1, h2, h3⟩ := u.none hk
  have hq2 : questB ⟨q.name, t⟩ = true := by unfold questB; rw [u.name]; simp; omega
  have hx : exB z.sets q.name = false := by rw [exB_exists ho u.name]; exact h1
  rw [ans_val u.val hq2 u.under]
  refine ⟨?_, rfl⟩
  show (ansV (vw z ⟨q.name, t⟩)).kind = 6
  have hr : referB (vw z ⟨q.name, t⟩) = false := by rw [vw_refer]; show (!(cutOfR z q.name == []) && _) = false; rw [h2]; rfl
  have hal : ∀ t', decide (atI z.sets ⟨q.name, t'⟩ ≥ 0) = false := fun t' => by have := data_has z ⟨q.name, t'⟩; rw [no_name h1 t'] at this; exact this
  have hw : (noDataV (vw z ⟨q.name, t⟩)).wild = (noDataV (vw z q)).wild := by
    rw [wild_star (v := vw z ⟨q.name, t⟩) hx, wild_star (v := vw z q) hx]
    rfl
  have hnd : ∀ t', hasS z.sets ⟨(noDataV (vw z q)).wild, t'⟩ = false := fun t' => by
    rcases h3 with h3 | h3
    · rw [h3]
      have := at_nil ho t'
      have h4 := atI_neg z.sets ⟨[], t'⟩
      rw [decide_eq_true this] at h4
      simpa using h4.symm
    · exact no_name h3 t'
  have hat : ∀ t', decide (atI z.sets ⟨(noDataV (vw z q)).wild, t'⟩ ≥ 0) = false := fun t' => by have := data_has z ⟨(noDataV (vw z q)).wild, t'⟩; rw [hnd t'] at this; exact this
  have e1 : dataB (vw z ⟨q.name, t⟩) = false := hal t
  have e2 : aliasB (vw z ⟨q.name, t⟩) = false := by unfold aliasB; show (decide (atI z.sets ⟨q.name, 3⟩ ≥ 0) && _) = false; rw [hal 3]; rfl
  have e3 : exB (vw z ⟨q.name, t⟩).sets (vw z ⟨q.name, t⟩).q.name = false := hx
  have e4 : wildB (noDataV (vw z ⟨q.name, t⟩)) = false := by unfold wildB; rw [noData_sets, hw]; exact hat _
  have e5 : wildAliasB (noDataV (vw z ⟨q.name, t⟩)) = false := by
    unfold wildAliasB; rw [noData_sets, hw]
    show (decide (atI z.sets ⟨_, 3⟩ ≥ 0) && _) = false
    rw [hat 3]; rfl
  have e6 : wildNoB (noDataV (vw z ⟨q.name, t⟩)) = false := by
    unfold wildNoB; rw [noData_sets, hw]
    show (!((noDataV (vw z q)).wild == []) && exB z.sets (noDataV (vw z q)).wild) = false
    rcases h3 with h3 | h3
    · rw [h3]; rfl
    · cases hv : validN (noDataV (vw z q)).wild with
      | true => rw [exB_exists ho hv, h3, Bool.and_false]
      | false =>
        have := star_ok' (closeB (vw z q).apex (vw z q).sets (vw z q).q.name)
        rw [← wild_star (v := vw z q) hx, hv] at this
        rcases this with e | e
        · rw [e]; rfl
        · cases e
  rw [ansV_kind, hr, e1, e2, e3, e4, e5, e6]
  simp
end NP

/-
  Laws of layer 7: the examples, usable, Same.
-/
set_option linter.unusedSimpArgs false
set_option linter.unusedVariables false
set_option maxRecDepth 100000
namespace NP
open NQ Go
def oneSet7 (n : Bs) (k : Int) (d : Datum) : Signed := ⟨⟨n, k, 9, [d]⟩, []⟩
def exZ7 : Zone := ⟨[120], [oneSet7 [120] 2 ⟨[104, 46, 120], 0, 0⟩, oneSet7 [120] 4 ⟨[], 1, 0⟩, oneSet7 [42, 46, 120] 5 ⟨[116], 0, 0⟩, oneSet7 [97, 46, 98, 46, 120] 1 ⟨[], 1, 0⟩, oneSet7 [99, 46, 120] 2 ⟨[104, 46, 99, 46, 120], 0, 0⟩, oneSet7 [104, 46, 99, 46, 120] 1 ⟨[], 2, 0⟩, oneSet7 [100, 46, 120] 3 ⟨[101, 46, 121], 0, 0⟩]⟩
structure Try7 where
  s : Bs
  kind : Int
  want : Int
  cut : Bs
  idx : List Nat
def tab7 : List Try7 := [⟨[97, 46, 98, 46, 120], 1, 1, [], [3]⟩, ⟨[98, 46, 120], 5, 5, [], [1]⟩, ⟨[113, 46, 120], 5, 2, [], [2]⟩, ⟨[113, 46, 120], 1, 5, [], [1]⟩, ⟨[113, 46, 98, 46, 120], 5, 6, [], [1]⟩, ⟨[115, 46, 99, 46, 120], 1, 4, [99, 46, 120], [4, 5]⟩, ⟨[100, 46, 120], 1, 3, [], [6]⟩, ⟨[121], 1, 7, [], []⟩]
def natD (n : Nat) : List D := [.int .i64 n]
def try7D (x : Try7) : List D := [.str x.s, .int .i64 x.kind, .int .i64 x.want, .str x.cut, .slice 1 (x.idx.map natD)]
def at7 (l : List Nat) : List Signed := l.map fun i => (exZ7.sets[i]?).getD zeroSg
theorem tab7_ok : ∀ x ∈ tab7, ansR exZ7 ⟨x.s, x.kind⟩ = (⟨x.want, at7 x.idx, x.cut⟩, 0) ∧ (∀ i ∈ x.idx, i < 7) ∧ x.idx.length ≤ 7 := by
  have e1 : ansR exZ7 ⟨[97, 46, 98, 46, 120], 1⟩ = (⟨1, at7 [3], []⟩, 0) := by kernel_rfl
  have e2 : ansR exZ7 ⟨[98, 46, 120], 5⟩ = (⟨5, at7 [1], []⟩, 0) := by kernel_rfl
  have e3 : ansR exZ7 ⟨[113, 46, 120], 5⟩ = (⟨2, at7 [2], []⟩, 0) := by kernel_rfl
  have e4 : ansR exZ7 ⟨[113, 46, 120], 1⟩ = (⟨5, at7 [1], []⟩, 0) := by kernel_rfl
  have e5 : ansR exZ7 ⟨[113, 46, 98, 46, 120], 5⟩ = (⟨6, at7 [1], []⟩, 0) := by kernel_rfl
  have e6 : ansR exZ7 ⟨[115, 46, 99, 46, 120], 1⟩ = (⟨4, at7 [4, 5], [99, 46, 120]⟩, 0) := by kernel_rfl
  have e7 : ansR exZ7 ⟨[100, 46, 120], 1⟩ = (⟨3, at7 [6], []⟩, 0) := by kernel_rfl
  have e8 : ansR exZ7 ⟨[121], 1⟩ = (⟨7, at7 [], []⟩, 0) := by kernel_rfl
  intro x hx
  simp only [tab7, List.mem_cons, List.not_mem_nil, or_false] at hx
  rcases hx with rfl | rfl | rfl | rfl | rfl | rfl | rfl | rfl
  · exact ⟨e1, by decide, by decide⟩
  · exact ⟨e2, by decide, by decide⟩
  · exact ⟨e3, by decide, by decide⟩
  · exact ⟨e4, by decide, by decide⟩
  · exact ⟨e5, by decide, by decide⟩
  · exact ⟨e6, by decide, by decide⟩
  · exact ⟨e7, by decide, by decide⟩
  · exact ⟨e8, by decide, by decide⟩
theorem tab7_get (x : Try7) (hm : x ∈ tab7) : ∀ j, j < x.idx.length → ∃ i s, x.idx[j]? = some i ∧ exZ7.sets[i]? = some s ∧ at7 (x.idx.take (j + 1)) = at7 (x.idx.take j) ++ [s] ∧ (at7 (x.idx.take j)).length ≤ 7 := fun j hjl => by
  obtain ⟨_, hidx, hl7⟩ := tab7_ok x hm
  obtain ⟨i, hi⟩ : ∃ i, x.idx[j]? = some i := ⟨_, List.getElem?_eq_getElem hjl⟩
  have hi7 := hidx i (List.mem_of_getElem? hi)
  obtain ⟨s, hs⟩ : ∃ s, exZ7.sets[i]? = some s := ⟨_, List.getElem?_eq_getElem (show i < exZ7.sets.length from hi7)⟩
  refine ⟨i, s, hi, hs, ?_, ?_⟩
  · unfold at7; rw [take_snoc hi, List.map_append]; simp [hs]
  · unfold at7; rw [List.length_map, List.length_take]; omega
end NP
namespace Go.Proofs.YtmgacjioflnamaaGreatDoor
open NQ Go NP Go.RowKit

theorem sameAns_fn (a b : Ans) (ha : a.sets.length ≤ 100000) (hs : ∀ s ∈ a.sets, s.set.data.length ≤ 100000 ∧ s.sigs.length ≤ 100000) : NQ.Fn cx 18 [.agg (ansD a), .agg (ansD b)] (.d (.bool (decide (a = b)))) [] := by
  refine fn_of_vc tyOk mixed Tryz.func18 (by kernel_rfl) rfl (Nat.le_of_ble_eq_true rfl) ?_; conv => whnf
  (refine ⟨_, _, sameList_fn a.sets b.sets ha hs, ?_⟩; conv => whnf)
  refine bcase_intro (fun h1 => ?_) (fun h1 => ?_) <;> (rw [h1]; conv => whnf)
  · refine bcase_intro (fun h2 => ?_) (fun h2 => ?_) <;> (rw [h2]; conv => whnf)
    · refine ret_data rfl ?_
      have e1 : a.sets = b.sets := by simpa using h1
      have e2 : a.kind = b.kind := by simpa using h2
      show AV.d (D.bool (a.cut == b.cut)) = _
      congr 2
      obtain ⟨ka, sa, ca⟩ := a
      obtain ⟨kb, sb, cb⟩ := b
      simp only at e1 e2
      subst e1; subst e2
      by_cases e : ca = cb
      · subst e; rw [decide_eq_true rfl]; simp
      · rw [decide_eq_false (fun h => e (by cases h; rfl))]; simpa using e
    · exact ret_data rfl (no_eq fun e => by rw [e] at h2; simp at h2)
  · exact ret_data rfl (no_eq fun e => by rw [e] at h1; simp at h1)
theorem lset7_fn (n : Bs) (k : Int) (d : Datum) : NQ.Fn cx 133 [.str n, .int .i64 k, .agg (datumD d)] (.agg ((signedD (oneSet7 n k d)).map .d)) [] := by
  refine fn_of_vc tyOk mixed Tryz.func133 (by kernel_rfl) rfl (Nat.le_of_ble_eq_true rfl) ?_; conv => whnf
  exact ret_data rfl rfl
theorem example7_fn : NQ.Fn cx 50 [] (.agg ((zoneD exZ7).map .d)) [] := by
  refine fn_of_vc tyOk mixed Tryz.func50 (by kernel_rfl) rfl (Nat.le_of_ble_eq_true rfl) ?_; conv => whnf
  repeat' (first
    | (refine ⟨_, _, lset7_fn _ _ ⟨_, _, _⟩, ?_⟩; conv => whnf)
    | fail)
  exact ret_data rfl rfl
theorem usable7_fn (z : Zone) (q : Quest) : NQ.Fn cx 19 [.agg (zoneD z), .agg (questD q)] (.d (.bool (fewB z && validZ z && questB q && underN q.name z.apex))) [] := by
  refine fn_of_vc tyOk mixed Tryz.func19 (by kernel_rfl) rfl (Nat.le_of_ble_eq_true rfl) ?_; conv => whnf
  (refine ⟨_, _, few_fn z, ?_⟩; conv => whnf)
  refine bcase_intro (fun h1 => ?_) (fun h1 => ?_) <;> (rw [h1]; conv => whnf)
  · obtain ⟨f1, f2⟩ := fewB_facts h1
    (refine ⟨_, _, rvalid_fn z (by omega), ?_⟩; conv => whnf)
    refine bcase_intro (fun h2 => ?_) (fun h2 => ?_) <;> (rw [h2]; conv => whnf)
    · (refine ⟨_, _, rquest_fn q, ?_⟩; conv => whnf)
      refine bcase_intro (fun h3 => ?_) (fun h3 => ?_) <;> (rw [h3]; conv => whnf)
      · have hqn : validN q.name = true := by unfold questB at h3; simp only [Bool.and_eq_true] at h3; exact h3.1.1
        (refine ⟨_, _, RIn_fn q.name z.apex (valid_len hqn) (valid_len (validZ_ordered h2).apex), ?_⟩; conv => whnf)
        exact ret_data rfl rfl
      · exact ret_data rfl rfl
    · exact ret_data rfl rfl
  · exact ret_data rfl rfl
noncomputable def cxH : Cx := { cx with bld := [14, 16, 18, 20, 22, 24, 26, 29] }
theorem tyH : TyOk cxH := tyOk
theorem mixedH : cxH.P.follows .mixedOrders = true := mixed
set_option maxHeartbeats 1000000 in
theorem head7_fn : NQ.Fn cx 14 [] (.d (.bool true)) [] := by
  have few7 : fewB exZ7 = true := by kernel_rfl
  have few0 : fewB ⟨[120], []⟩ = true := by kernel_rfl
  have b1 : ansR exZ7 ⟨[120], 9⟩ = (ans0, 1) := by kernel_rfl
  have b2 : ansR ⟨[120], []⟩ ⟨[120], 1⟩ = (ans0, 1) := by kernel_rfl
  have fB1 := answer_fn exZ7 ⟨[120], 9⟩ few7; rw [b1] at fB1
  have fB2 := answer_fn ⟨[120], []⟩ ⟨[120], 1⟩ few0; rw [b2] at fB2
  have fA : ∀ x ∈ tab7, NQ.Fn cx 16 [.agg (zoneD exZ7), .agg (questD ⟨x.s, x.kind⟩)] (.tuple [.agg ((ansD ⟨x.want, at7 x.idx, x.cut⟩).map .d), .d (.int .i64 0)]) [] := fun x hx => by
    have := answer_fn exZ7 ⟨x.s, x.kind⟩ few7
    rw [(tab7_ok x hx).1] at this; exact this
  have fS : ∀ x ∈ tab7, NQ.Fn cx 18 [.agg (ansD ⟨x.want, at7 x.idx, x.cut⟩), .agg (ansD ⟨x.want, at7 x.idx, x.cut⟩)] (.d (.bool true)) [] := fun x hx => by
    have hl := (tab7_ok x hx).2.2
    have := sameAns_fn ⟨x.want, at7 x.idx, x.cut⟩ ⟨x.want, at7 x.idx, x.cut⟩ (by show (at7 x.idx).length ≤ _; unfold at7; rw [List.length_map]; omega) (fun s hs => by
      unfold at7 at hs
      obtain ⟨i, hi, rfl⟩ := List.mem_map.1 hs
      have := (tab7_ok x hx).2.1 i hi
      have e : ∀ i, i < 7 → ((exZ7.sets[i]?).getD zeroSg).set.data.length ≤ 100000 ∧ ((exZ7.sets[i]?).getD zeroSg).sigs.length ≤ 100000 := by decide
      exact e i this)
    rwa [decide_eq_true rfl] at this
  clear b1 b2
  show NQ.Fn cxH _ _ _ _
  refine fn_of_vcz (fun _ => []) tyH mixedH Tryz.func14 (by kernel_rfl) rfl (Nat.le_of_ble_eq_true rfl) ?_
  conv => whnf
  (refine ⟨_, _, example7_fn, ?_⟩; conv => whnf)
  refine ⟨Nat, fun k => ⟨[(1, .ptr 1 0), (29, .d (.slice 5 (tab7.map try7D))), (30, .d (.int .i64 8)), (31, .d (.int .i64 k))], [(1, .box ((zoneD exZ7).map .d))]⟩, fun k => k ≤ 8, fun k => 8 - k,
    ⟨0, by omega, Weak.keep ⟨⟨rfl, rfl⟩, ⟨rfl, rfl⟩, ⟨rfl, rfl⟩, ⟨rfl, rfl⟩, trivial⟩ ⟨⟨rfl, rfl⟩, trivial⟩⟩, fun k hk => ?_⟩
  conv => whnf
  refine bcase_intro (fun h1 => ?_) (fun h1 => ?_) <;> (rw [h1]; conv => whnf)
  · have hlt : k < 8 := by simp at h1; omega
    obtain ⟨x, hx⟩ : ∃ x, tab7[k]? = some x := ⟨_, List.getElem?_eq_getElem (show k < tab7.length from hlt)⟩
    have hm := List.mem_of_getElem? hx
    obtain ⟨_, hidx, hl7⟩ := tab7_ok x hm
    refine ⟨Int.natCast_nonneg k, try7D x, map_get hx, ?_⟩
    conv => whnf
    (refine ⟨_, _, fA x hm, ?_⟩; conv => whnf)
    have hget : ∀ j, j < x.idx.length → ∃ i s, x.idx[j]? = some i ∧ exZ7.sets[i]? = some s ∧ at7 (x.idx.take (j + 1)) = at7 (x.idx.take j) ++ [s] ∧ (at7 (x.idx.take j)).length ≤ 7 := tab7_get x hm
    refine ⟨Nat, fun j => ⟨[(1, .ptr 1 0), (4, .ptr 4 0), (5, .d (.int .i64 0)), (6, .ptr 6 0), (29, .d (.slice 5 (tab7.map try7D))), (30, .d (.int .i64 8)), (31, .d (.int .i64 k)), (51, .d (.slice 1 (x.idx.map natD))), (52, .d (.int .i64 ((x.idx.map natD).length : Int))), (53, .d (.int .i64 j))],
        [(1, .box ((zoneD exZ7).map .d)), (4, .box ((ansD ⟨x.want, at7 x.idx, x.cut⟩).map .d)), (6, .box [.d (.int .i64 x.want), .own 65, .d (.str x.cut)]), (65, .row 41 5 ((at7 (x.idx.take j)).map signedD))]⟩, fun j => j ≤ x.idx.length, fun j => x.idx.length - j,
      ⟨0, by omega, (Weak.promoteBox 6 1 65 5 [.d (.int .i64 x.want), .nil 5, .d (.str x.cut)] 41 5 rfl rfl rfl (by decide)).trans (Weak.keep ⟨⟨rfl, rfl⟩, ⟨rfl, rfl⟩, ⟨rfl, rfl⟩, ⟨rfl, rfl⟩, ⟨rfl, rfl⟩, ⟨rfl, rfl⟩, ⟨rfl, rfl⟩, ⟨rfl, rfl⟩, ⟨rfl, rfl⟩, ⟨rfl, rfl⟩, trivial⟩ ⟨⟨rfl, rfl⟩, ⟨rfl, rfl⟩, ⟨rfl, rfl⟩, ⟨rfl, rfl⟩, trivial⟩)⟩, fun j hj => ?_⟩
    conv => whnf
    refine bcase_intro (fun h2 => ?_) (fun h2 => ?_) <;> (rw [h2]; conv => whnf)
    · have hjl : j < x.idx.length := by simp at h2; omega
      refine Exists.elim (hget j hjl) fun i hgi => Exists.elim hgi fun s hgs => ?_
      have hi := hgs.1
      have hs := hgs.2.1
      have hat := hgs.2.2.1
      have hlen := hgs.2.2.2
      refine ⟨Int.natCast_nonneg j, natD i, map_get hi, ?_⟩
      conv => whnf
      (refine ⟨(by kernel_rfl : planOk _ _ = true), ?_⟩; conv => whnf)
      refine ⟨Int.natCast_nonneg i, signedD s, map_get hs, ?_⟩
      conv => whnf
      refine ⟨by (show ((at7 (x.idx.take j)).map signedD).length + 1 ≤ _; rw [List.length_map]; omega), by (show (((at7 (x.idx.take j)).map signedD).length + 1) * 80 ≤ _; rw [List.length_map]; omega), ?_⟩
      conv => whnf
      refine ⟨j + 1, hjl, by (show x.idx.length - (j + 1) < x.idx.length - j; omega), Weak.keep ⟨⟨rfl, rfl⟩, ⟨rfl, rfl⟩, ⟨rfl, rfl⟩, ⟨rfl, rfl⟩, ⟨rfl, rfl⟩, ⟨rfl, rfl⟩, ⟨rfl, rfl⟩, ⟨rfl, rfl⟩, ⟨rfl, rfl⟩, ⟨wrap_succ (by omega), rfl⟩, trivial⟩ ⟨⟨rfl, rfl⟩, ⟨rfl, rfl⟩, ⟨rfl, rfl⟩, ⟨?_, rfl⟩, trivial⟩⟩
      rw [hat, List.map_append]
      show some (Blk.row _ _ (_ ++ _)) = _
      rfl
    · obtain rfl : j = x.idx.length := by simp at h2; omega
      rw [List.take_length]
      refine ⟨_, fS x hm, rfl, ?_⟩
      conv => whnf
      exact ⟨k + 1, hlt, by (show 8 - (k + 1) < 8 - k; omega), Weak.keep ⟨⟨rfl, rfl⟩, ⟨rfl, rfl⟩, ⟨rfl, rfl⟩, ⟨wrap_succ (by omega), rfl⟩, trivial⟩ ⟨⟨rfl, rfl⟩, trivial⟩⟩
  · (refine ⟨_, _, fB1, ?_⟩; conv => whnf)
    (refine ⟨_, _, fB2, ?_⟩; conv => whnf)
    exact ret_data rfl rfl
end Go.Proofs.YtmgacjioflnamaaGreatDoor

/-
  LookupData: the walk of its text.
-/
set_option linter.unusedSimpArgs false
set_option linter.unusedVariables false
set_option maxRecDepth 100000
namespace Go.Proofs.YtmgacjioflnamaaGreatDoor
open NQ Go NP Go.RowKit

def fzD : Nat → List Nat
  | 11 => [55555]
  | _ => []

theorem use_answer {z : Zone} {q : Quest} (u : Use z q) : NQ.Fn cx 16 [.agg (zoneD z), .agg (questD q)] (.tuple [.agg ((ansD (ansR z q).1).map .d), .d (.int .i64 0)]) [] := by
  have := answer_fn z q u.few
  have e : (ansR z q).2 = 0 := by rw [u.ans]
  rw [e] at this
  exact this
theorem use_cut {z : Zone} {q : Quest} (u : Use z q) : NQ.Fn cx 21 [.agg (zoneD z), .str q.name] (.tuple [.d (.str (cutOfR z q.name)), .d (.bool (!(cutOfR z q.name == []))), .d (.int .i64 0)]) [] := by
  have := cut_fn z q.name
  rw [u.cut] at this
  exact this
theorem find_mem_fn {z : Zone} (hv : validZ z = true) {s : Signed} (hs : s ∈ z.sets) : NQ.Fn cx 20 [.agg (zoneD z), .agg (questD (qOf s))] (.tuple [.agg ((signedD s).map .d), .d (.bool true), .d (.int .i64 0)]) [] := by
  have := zfind_fn z (qOf s)
  rw [find_mem hv hs] at this
  exact this
theorem use_find {z : Zone} {q : Quest} {s : Signed} {has : Bool} (h : findR z q = (s, has, 0)) : NQ.Fn cx 20 [.agg (zoneD z), .agg (questD q)] (.tuple [.agg ((signedD s).map .d), .d (.bool has), .d (.int .i64 0)]) [] := by
  have := zfind_fn z q
  rw [h] at this
  exact this
theorem lookupData_fn (z : Zone) (q : Quest) : NQ.Fn cx 4 [.agg (zoneD z), .agg (questD q)] (.d (.bool true)) [] := by
  have fU := usable7_fn z q
  cases hU : (fewB z && validZ z && questB q && underN q.name z.apex) with
  | false =>
    rw [hU] at fU
    refine fn_of_vc tyOk mixed Tryz.func4 (by kernel_rfl) rfl (Nat.le_of_ble_eq_true rfl) ?_; conv => whnf
    (refine ⟨_, _, head7_fn, ?_⟩; conv => whnf)
    (refine ⟨_, _, fU, ?_⟩; conv => whnf)
    exact ret_data rfl rfl
  | true =>
  rw [hU] at fU
  have u : Use z q := use_of hU
  have fA := use_answer u
  have fC := use_cut u
  have hapart := ans_apart u.few u.val q
  have hmem := ans_mem u.few q
  have hlen := ans_len u.few q
  have hsmall := ans_small u.few q
  obtain ⟨s, has, hfind, hhas, hin⟩ := u.find
  have fF := use_find hfind
  have f1 : (cutOfR z q.name == []) = true → (!(has == ((ansR z q).1.kind == 1))) = false := fun h => by
    have hr : referB (vw z q) = false := by rw [vw_refer, h]; rfl
    have := u.kind1
    rw [hhas]
    cases hh : hasS z.sets q with
    | true => rw [this.2 ⟨hr, hh⟩]; rfl
    | false =>
      have : ¬ (ansR z q).1.kind = 1 := fun e => by have := (this.1 e).2; rw [hh] at this; cases this
      have : ((ansR z q).1.kind == 1) = false := by simpa using this
      rw [this]; rfl
  have f2 : (cutOfR z q.name == []) = true → has = true → (ansR z q).1.sets = [s] := fun h hh => by
    have hr : referB (vw z q) = false := by rw [vw_refer, h]; rfl
    obtain ⟨h1, h2⟩ := hin hh
    rw [u.data hr h1 h2]
  have fX : ∀ x ∈ (ansR z q).1.sets, NQ.Fn cx 20 [.agg (zoneD z), .agg (questD (qOf x))] (.tuple [.agg ((signedD x).map .d), .d (.bool true), .d (.int .i64 0)]) [] := fun x hx => find_mem_fn u.val (hmem x hx)
  have fS : ∀ x ∈ (ansR z q).1.sets, NQ.Fn cx 23 [.agg (signedD x), .agg (signedD x)] (.d (.bool true)) [] := fun x hx => by
    have := sameSigned_fn x x (hsmall x hx).1 (hsmall x hx).2
    rwa [decide_eq_true rfl] at this
  have fL : (ansR z q).1.sets = [s] → NQ.Fn cx 22 [.slice 5 ((ansR z q).1.sets.map signedD), .slice 5 ([s].map signedD)] (.d (.bool true)) [] := fun e => by
    have := sameList_fn (ansR z q).1.sets [s] (by omega) hsmall
    rwa [decide_eq_true e] at this
  generalize (ansR z q).1 = a at fA hapart hmem hlen hsmall f1 f2 fX fS fL
  obtain ⟨c, hc⟩ : ∃ c, cutOfR z q.name = c := ⟨_, rfl⟩
  rw [hc] at fC f1 f2
  have hget : ∀ k, k < a.sets.length → ∃ x, a.sets[k]? = some x := fun k h => ⟨_, List.getElem?_eq_getElem h⟩
  have hap : ∀ (i j : Nat) x y, i < j → a.sets[i]? = some x → a.sets[j]? = some y → ((x.set.name == y.set.name) && (x.set.type == y.set.type)) = false := fun i j x y hlt hx hy => by
    obtain ⟨h1, e1⟩ := List.getElem?_eq_some_iff.1 hx
    obtain ⟨h2, e2⟩ := List.getElem?_eq_some_iff.1 hy
    have := List.pairwise_iff_getElem.1 hapart i j h1 h2 hlt
    rw [e1, e2] at this
    rw [← Bool.not_eq_true]
    intro e
    simp only [Bool.and_eq_true, beq_iff_eq] at e
    exact this (by unfold Signed.place; rw [e.1, e.2])
  have loop : ∀ st, Weak cx st ⟨[(2, .ptr 2 0), (5, .d (.bool true)), (6, .ptr 6 0)], [(2, .box ((zoneD z).map .d)), (6, .box ((ansD a).map .d))]⟩ → vc cx Tryz.f4.ntmps fzD (tailC 8 ((Tryz.f4.body).getD .skip)) (fnQ cx Tryz.f4.results.toList (.d (.bool true)) []) st := by
    intro st hw
    conv => whnf
    refine ⟨_, hw, ?_⟩
    conv => whnf
    refine ⟨Nat, fun k => ⟨[(2, .ptr 2 0), (5, .d (.bool true)), (6, .ptr 6 0), (79, .d (.slice 5 (a.sets.map signedD))), (80, .d (.int .i64 ((a.sets.map signedD).length : Int))), (81, .d (.int .i64 k))], [(2, .box ((zoneD z).map .d)), (6, .box ((ansD a).map .d))]⟩, fun k => k ≤ a.sets.length, fun k => a.sets.length - k,
      ⟨0, by omega, Weak.keep ⟨⟨rfl, rfl⟩, ⟨rfl, rfl⟩, ⟨rfl, rfl⟩, ⟨rfl, rfl⟩, ⟨rfl, rfl⟩, ⟨rfl, rfl⟩, trivial⟩ ⟨⟨rfl, rfl⟩, ⟨rfl, rfl⟩, trivial⟩⟩, fun k hk => ?_⟩
    conv => whnf
    refine bcase_intro (fun h1 => ?_) (fun h1 => ?_) <;> (rw [h1]; conv => whnf)
    · have hlt : k < a.sets.length := by simp at h1; omega
      refine Exists.elim (hget k hlt) fun x hx => ?_
      have hxm := List.mem_of_getElem? hx
      refine ⟨Int.natCast_nonneg k, signedD x, map_get hx, ?_⟩
      conv => whnf
      (refine ⟨_, _, fX x hxm, ?_⟩; conv => whnf)
      (refine ⟨_, _, fS x hxm, ?_⟩; conv => whnf)
      refine ⟨by decide, Int.natCast_nonneg k, by (show (k : Int) ≤ ((a.sets.map signedD).length : Int); rw [List.length_map]; omega), ?_⟩
      conv => whnf
      rw [rows_take]
      refine ⟨Nat, fun j => ⟨[(2, .ptr 2 0), (5, .d (.bool true)), (6, .ptr 6 0), (15, .ptr 15 0), (79, .d (.slice 5 (a.sets.map signedD))), (80, .d (.int .i64 ((a.sets.map signedD).length : Int))), (81, .d (.int .i64 k)), (114, .d (.slice 5 ((a.sets.take k).map signedD))), (115, .d (.int .i64 (((a.sets.take k).map signedD).length : Int))), (116, .d (.int .i64 j))],
          [(2, .box ((zoneD z).map .d)), (6, .box ((ansD a).map .d)), (15, .box ((signedD x).map .d))]⟩, fun j => j ≤ k, fun j => k - j,
        ⟨0, by omega, Weak.keep ⟨⟨rfl, rfl⟩, ⟨rfl, rfl⟩, ⟨rfl, rfl⟩, ⟨rfl, rfl⟩, ⟨rfl, rfl⟩, ⟨rfl, rfl⟩, ⟨rfl, rfl⟩, ⟨rfl, rfl⟩, ⟨rfl, rfl⟩, ⟨rfl, rfl⟩, trivial⟩ ⟨⟨rfl, rfl⟩, ⟨rfl, rfl⟩, ⟨rfl, rfl⟩, trivial⟩⟩, fun j hj => ?_⟩
      conv => whnf
      have hkl : ((a.sets.take k).map signedD).length = k := by rw [List.length_map, List.length_take]; omega
      refine bcase_intro (fun h2 => ?_) (fun h2 => ?_) <;> (rw [h2]; conv => whnf)
      · have hjl : j < k := by rw [hkl] at h2; simpa using h2
        refine Exists.elim (hget j (by omega)) fun o ho => ?_
        have hot : (a.sets.take k)[j]? = some o := by rw [List.getElem?_take, if_pos hjl]; exact ho
        refine ⟨Int.natCast_nonneg j, signedD o, map_get hot, ?_⟩
        conv => whnf
        have hne := hap j k o x hjl ho hx
        have next : ∀ st, Weak cx st ⟨[(2, .ptr 2 0), (5, .d (.bool true)), (6, .ptr 6 0), (15, .ptr 15 0), (79, .d (.slice 5 (a.sets.map signedD))), (80, .d (.int .i64 ((a.sets.map signedD).length : Int))), (81, .d (.int .i64 k)), (114, .d (.slice 5 ((a.sets.take k).map signedD))), (115, .d (.int .i64 (((a.sets.take k).map signedD).length : Int))), (116, .d (.int .i64 ((j + 1 : Nat) : Int)))],
            [(2, .box ((zoneD z).map .d)), (6, .box ((ansD a).map .d)), (15, .box ((signedD x).map .d))]⟩ → ∃ y : Nat, (y ≤ k) ∧ k - y < k - j ∧ Weak cx st ⟨[(2, .ptr 2 0), (5, .d (.bool true)), (6, .ptr 6 0), (15, .ptr 15 0), (79, .d (.slice 5 (a.sets.map signedD))), (80, .d (.int .i64 ((a.sets.map signedD).length : Int))), (81, .d (.int .i64 k)), (114, .d (.slice 5 ((a.sets.take k).map signedD))), (115, .d (.int .i64 (((a.sets.take k).map signedD).length : Int))), (116, .d (.int .i64 y))],
            [(2, .box ((zoneD z).map .d)), (6, .box ((ansD a).map .d)), (15, .box ((signedD x).map .d))]⟩ := fun st hw => ⟨j + 1, hjl, by omega, hw⟩
        refine bcase_intro (fun hn => ?_) (fun hn => ?_) <;> (rw [hn]; conv => whnf)
        · rw [hn, Bool.true_and] at hne
          rw [hne]
          conv => whnf
          exact next _ (Weak.keep ⟨⟨rfl, rfl⟩, ⟨rfl, rfl⟩, ⟨rfl, rfl⟩, ⟨rfl, rfl⟩, ⟨rfl, rfl⟩, ⟨rfl, rfl⟩, ⟨rfl, rfl⟩, ⟨rfl, rfl⟩, ⟨rfl, rfl⟩, ⟨wrap_succ (by omega), rfl⟩, trivial⟩ ⟨⟨rfl, rfl⟩, ⟨rfl, rfl⟩, ⟨rfl, rfl⟩, trivial⟩)
        · exact next _ (Weak.keep ⟨⟨rfl, rfl⟩, ⟨rfl, rfl⟩, ⟨rfl, rfl⟩, ⟨rfl, rfl⟩, ⟨rfl, rfl⟩, ⟨rfl, rfl⟩, ⟨rfl, rfl⟩, ⟨rfl, rfl⟩, ⟨rfl, rfl⟩, ⟨wrap_succ (by omega), rfl⟩, trivial⟩ ⟨⟨rfl, rfl⟩, ⟨rfl, rfl⟩, ⟨rfl, rfl⟩, trivial⟩)
      · exact ⟨k + 1, hlt, by (show a.sets.length - (k + 1) < a.sets.length - k; omega), Weak.keep ⟨⟨rfl, rfl⟩, ⟨rfl, rfl⟩, ⟨rfl, rfl⟩, ⟨rfl, rfl⟩, ⟨rfl, rfl⟩, ⟨wrap_succ (by omega), rfl⟩, trivial⟩ ⟨⟨rfl, rfl⟩, ⟨rfl, rfl⟩, trivial⟩⟩
    · exact ret_data rfl rfl
  refine fn_of_vcz fzD tyOk mixed Tryz.func4 (by kernel_rfl) rfl (Nat.le_of_ble_eq_true rfl) ?_
  conv => whnf
  (refine ⟨_, _, head7_fn, ?_⟩; conv => whnf)
  (refine ⟨_, _, fU, ?_⟩; conv => whnf)
  (refine ⟨_, _, fA, ?_⟩; conv => whnf)
  (refine ⟨_, _, fF, ?_⟩; conv => whnf)
  (refine ⟨_, _, fC, ?_⟩; conv => whnf)
  cases hcc : (c == []) with
  | false =>
    conv => whnf
    exact loop _ (Weak.keep ⟨⟨rfl, rfl⟩, ⟨rfl, rfl⟩, ⟨rfl, rfl⟩, trivial⟩ ⟨⟨rfl, rfl⟩, ⟨rfl, rfl⟩, trivial⟩)
  | true =>
    conv => whnf
    rw [f1 hcc]
    conv => whnf
    cases has with
    | false =>
      conv => whnf
      exact loop _ (Weak.keep ⟨⟨rfl, rfl⟩, ⟨rfl, rfl⟩, ⟨rfl, rfl⟩, trivial⟩ ⟨⟨rfl, rfl⟩, ⟨rfl, rfl⟩, trivial⟩)
    | true =>
      conv => whnf
      refine ⟨_, fL (f2 hcc rfl), rfl, ?_⟩
      conv => whnf
      exact loop _ (Weak.keep ⟨⟨rfl, rfl⟩, ⟨rfl, rfl⟩, ⟨rfl, rfl⟩, trivial⟩ ⟨⟨rfl, rfl⟩, ⟨rfl, rfl⟩, trivial⟩)
end Go.Proofs.YtmgacjioflnamaaGreatDoor

/-
  LookupWildcards: the walk of its text.
-/
set_option linter.unusedSimpArgs false
set_option linter.unusedVariables false
set_option maxRecDepth 100000
namespace Go.Proofs.YtmgacjioflnamaaGreatDoor
open NQ Go NP Go.RowKit

theorem Weak.frz {cx : Cx} {st : St} (l : List Nat) : Weak cx st (st.freezeAll l) := fun _ _ _ h => h.freezeAll l
def fzW : Nat → List Nat
  | 9 => [66666]
  | 14 => [55555]
  | _ => []
def stW (z : Zone) (q : Quest) (o : RSet) : St := ⟨[(2, .ptr 2 0), (3, .ptr 3 0), (5, .d (.bool true)), (8, .ptr 8 0)], [(2, .box ((zoneD z).map .d)), (3, .box ((questD q).map .d)), (8, .box ((setD o).map .d))]⟩
theorem wildcards_tail (z : Zone) (q : Quest) (o : RSet) (u : Use z q) (hr : referB (vw z q) = false) (he : existsR z q.name = false) (hn : o.name = q.name) (ht2 : o.type ≠ 2) (ht3 : o.type ≠ 3) (htq : o.type ≠ q.type) (st : St) (hw : Weak cx st (stW z q o)) :
    vc cx Tryz.f6.ntmps fzW (tailC 9 ((Tryz.f6.body).getD .skip)) (fnQ cx Tryz.f6.results.toList (.d (.bool true)) []) st := by
  have fP := put_fn z ⟨o, []⟩
  cases hE : ((putR z ⟨o, []⟩).2 == 0) with
  | false =>
    have hE' : ((putR z ⟨o, []⟩).2 != 0) = true := by rw [bne, hE]; rfl
    conv => whnf
    refine ⟨_, hw, ?_⟩
    conv => whnf
    (refine ⟨_, _, fP, ?_⟩; conv => whnf)
    rw [hE']
    conv => whnf
    exact ret_data rfl rfl
  | true =>
    have h0 : (putR z ⟨o, []⟩).2 = 0 := by simpa using hE
    obtain ⟨h1, h2, a, h3, h4⟩ := put_name (s := ⟨o, []⟩) u hr he h0 ht2 (fun e => htq (congrArg Prod.snd e)) (fun e => ht3 (congrArg Prod.snd e)) (by show underN o.name q.name = true; rw [hn]; exact under_self _)
    rw [h1] at fP
    have fA := answerL_fn (putZ z ⟨o, []⟩) q h2
    rw [h3] at fA
    conv => whnf
    refine ⟨_, hw, ?_⟩
    conv => whnf
    (refine ⟨_, _, fP, ?_⟩; conv => whnf)
    (refine ⟨_, _, fA, ?_⟩; conv => whnf)
    refine ret_data rfl ?_
    show AV.d (D.bool (a.kind == 5)) = _
    rw [h4]; rfl
theorem lookupWildcards_fn (z : Zone) (q : Quest) : NQ.Fn cx 6 [.agg (zoneD z), .agg (questD q)] (.d (.bool true)) [] := by
  have fU := usable7_fn z q
  cases hU : (fewB z && validZ z && questB q && underN q.name z.apex) with
  | false =>
    rw [hU] at fU
    refine fn_of_vc tyOk mixed Tryz.func6 (by kernel_rfl) rfl (Nat.le_of_ble_eq_true rfl) ?_; conv => whnf
    (refine ⟨_, _, head7_fn, ?_⟩; conv => whnf)
    (refine ⟨_, _, fU, ?_⟩; conv => whnf)
    exact ret_data rfl rfl
  | true =>
  rw [hU] at fU
  have u : Use z q := use_of hU
  have fA := use_answer u
  cases hk : ((ansR z q).1.kind == 2) with
  | false =>
    have hk' : ((ansR z q).1.kind != 2) = true := by rw [bne, hk]; rfl
    generalize (ansR z q).1 = a at fA hk'
    refine fn_of_vc tyOk mixed Tryz.func6 (by kernel_rfl) rfl (Nat.le_of_ble_eq_true rfl) ?_; conv => whnf
    (refine ⟨_, _, head7_fn, ?_⟩; conv => whnf)
    (refine ⟨_, _, fU, ?_⟩; conv => whnf)
    (refine ⟨_, _, fA, ?_⟩; conv => whnf)
    rw [hk']
    conv => whnf
    exact ret_data rfl rfl
  | true =>
  have hk2 : (ansR z q).1.kind = 2 := by simpa using hk
  obtain ⟨hr, he, s0, R, hs, hwild, hst⟩ := u.wild hk2
  have ha : (ansR z q).1 = ⟨2, s0 :: R, (ansR z q).1.cut⟩ := by rw [← hs, ← hk2]
  rw [ha] at fA
  generalize (ansR z q).1.cut = ct at fA
  have hf := (fewB_facts u.few).1
  have fH := has_rfn z q.name (by omega)
  have hno : hasN z q.name = false := by
    unfold hasN
    rw [List.any_eq_false]
    intro s hsm e
    have e : s.set.name = q.name := by simpa using e
    have := exists_name hsm (n := q.name) (by rw [e]; exact under_self _)
    rw [he] at this; cases this
  rw [hno] at fH
  have fW := RWild02_fn s0.set.name
  rw [hwild] at fW
  have e5 : (((((⟨2, s0 :: R, ct⟩ : Ans).sets.map signedD).length : Int)) == 0) = false := by
    show ((((s0 :: R).map signedD).length : Int) == 0) = false
    rw [← Bool.not_eq_true]; intro e; simp at e; omega
  have etq : (s0.set.type != q.type) = false := by rw [hst]; simp
  refine fn_of_vcz fzW tyOk mixed Tryz.func6 (by kernel_rfl) rfl (Nat.le_of_ble_eq_true rfl) ?_
  conv => whnf
  (refine ⟨_, _, head7_fn, ?_⟩; conv => whnf)
  (refine ⟨_, _, fU, ?_⟩; conv => whnf)
  (refine ⟨_, _, fA, ?_⟩; conv => whnf)
  (refine ⟨(by kernel_rfl : cleanOk _ = true), ?_⟩; conv => whnf)
  (refine ⟨_, _, fH, ?_⟩; conv => whnf)
  (repeat (refine ⟨by kernel_rfl, ?_⟩)); conv => whnf
  rw [e5]
  conv => whnf
  refine ⟨by decide, signedD s0, rfl, ?_⟩
  conv => whnf
  (refine ⟨_, _, fW, ?_⟩; conv => whnf)
  (repeat (refine ⟨by kernel_rfl, ?_⟩)); conv => whnf
  refine ⟨by decide, signedD s0, rfl, ?_⟩
  conv => whnf
  rw [etq]
  conv => whnf
  refine bcase_intro (fun h1 => ?_) (fun h1 => ?_) <;> (rw [h1]; conv => whnf)
  · have hq1 : q.type = 1 := by simpa using h1
    exact wildcards_tail z q ⟨q.name, 5, 0, [⟨[116], 0, 0⟩]⟩ u hr he rfl (by show (5 : Int) ≠ 2; decide) (by show (5 : Int) ≠ 3; decide) (by show (5 : Int) ≠ q.type; omega) _ ((Weak.frz [65, 73]).trans (Weak.keep ⟨⟨rfl, rfl⟩, ⟨rfl, rfl⟩, ⟨rfl, rfl⟩, ⟨rfl, rfl⟩, trivial⟩ ⟨⟨rfl, rfl⟩, ⟨rfl, rfl⟩, ⟨rfl, rfl⟩, trivial⟩))
  · have hq1 : q.type ≠ 1 := by simpa using h1
    exact wildcards_tail z q ⟨q.name, 1, 0, [⟨[], 1, 0⟩]⟩ u hr he rfl (by show (1 : Int) ≠ 2; decide) (by show (1 : Int) ≠ 3; decide) (by show (1 : Int) ≠ q.type; omega) _ ((Weak.frz [65, 73]).trans (Weak.keep ⟨⟨rfl, rfl⟩, ⟨rfl, rfl⟩, ⟨rfl, rfl⟩, ⟨rfl, rfl⟩, trivial⟩ ⟨⟨rfl, rfl⟩, ⟨rfl, rfl⟩, ⟨rfl, rfl⟩, trivial⟩))
end Go.Proofs.YtmgacjioflnamaaGreatDoor

/-
  LookupNames: the walk of its text.
-/
set_option linter.unusedSimpArgs false
set_option linter.unusedVariables false
set_option maxRecDepth 100000
namespace NP
open NQ Go
theorem Use.refer_none {z : Zone} {q : Quest} (u : Use z q) (hk : (ansR z q).1.kind = 6) : referB (vw z q) = false := by
  rw [vw_refer, (u.none hk).2.1]; rfl
theorem u8_range {n : Int} (h : (Lit.int .u8 n).wf = true) : 0 ≤ n ∧ n ≤ 255 := by
  have h1 : IntKind.u8.min = 0 := rfl
  have h2 : IntKind.u8.max = 255 := rfl
  simp [Lit.wf, h1, h2] at h
  exact h
theorem low_under {l : Bs} {n w : Bs} (hn : validN n = true) (h : joinR (l :: labs n) = (w, 0)) : validN w = true ∧ underN w n = true ∧ w ≠ n := by
  unfold joinR at h
  split at h
  · rename_i hc
    obtain ⟨h1, h2⟩ := join_ok hc
    cases h
    refine ⟨h1, ?_, fun e => ?_⟩
    · rw [underN_iff, back_eq, back_eq, h2]
      simp
    · have := congrArg labs e
      rw [h2] at this
      have := congrArg List.length this
      simp at this
  · cases h
end NP
namespace Go.Proofs.YtmgacjioflnamaaGreatDoor
open NQ Go NP Go.RowKit

noncomputable def cxW : Cx := { cx with bld := [116] }
theorem tyW : TyOk cxW := tyOk
theorem mixedW : cxW.P.follows .mixedOrders = true := mixed
def fzN : Nat → List Nat
  | 16 => [55555]
  | 20 => [55555]
  | 24 => [55555]
  | _ => []
def stN (z : Zone) (q : Quest) (k : Int) (l : Bs) : St := ⟨[(2, .d (.int .u8 k)), (3, .d (.str l)), (4, .ptr 4 0), (5, .ptr 5 0), (9, .d (.bool true))], [(4, .box ((zoneD z).map .d)), (5, .box ((questD q).map .d))]⟩
theorem lookupNames_fn (z : Zone) (q : Quest) (k : Int) (hwf : (Lit.int .u8 k).wf = true) (l : Bs) : NQ.Fn cx 7 [.agg (zoneD z), .agg (questD q), .int .u8 k, .str l] (.d (.bool true)) [] := by
  have fU := usable7_fn z q
  cases hU : (fewB z && validZ z && questB q && underN q.name z.apex) with
  | false =>
    rw [hU] at fU
    refine fn_of_vc tyOk mixed Tryz.func7 (by kernel_rfl) rfl (Nat.le_of_ble_eq_true rfl) ?_; conv => whnf
    (refine ⟨_, _, head7_fn, ?_⟩; conv => whnf)
    (refine ⟨_, _, fU, ?_⟩; conv => whnf)
    exact ret_data rfl rfl
  | true =>
  rw [hU] at fU
  have u : Use z q := use_of hU
  have fA := use_answer u
  cases hk : ((ansR z q).1.kind == 6) with
  | false =>
    have hk' : ((ansR z q).1.kind != 6) = true := by rw [bne, hk]; rfl
    generalize (ansR z q).1 = a at fA hk'
    refine fn_of_vc tyOk mixed Tryz.func7 (by kernel_rfl) rfl (Nat.le_of_ble_eq_true rfl) ?_; conv => whnf
    (refine ⟨_, _, head7_fn, ?_⟩; conv => whnf)
    (refine ⟨_, _, fU, ?_⟩; conv => whnf)
    (refine ⟨_, _, fA, ?_⟩; conv => whnf)
    rw [hk']
    conv => whnf
    exact ret_data rfl rfl
  | true =>
  have hk6 : (ansR z q).1.kind = 6 := by simpa using hk
  have hk' : ((ansR z q).1.kind != 6) = false := by rw [bne, hk]; rfl
  obtain ⟨he, hcut0, _⟩ := u.none hk6
  have hr := u.refer_none hk6
  have ho := u.ord
  have hun : ∀ s ∈ z.sets, underR s.set.name q.name = (false, 0) := fun s hs => by
    unfold underR
    rw [if_pos ⟨ho.name s hs, u.name⟩]
    have := List.any_eq_false.1 he s hs
    have : underN s.set.name q.name = false := by simpa using this
    rw [this]
  have hget : ∀ i, i < z.sets.length → ∃ x, z.sets[i]? = some x := fun i h => ⟨_, List.getElem?_eq_getElem h⟩
  have hl100 := (fewB_facts u.few).1
  have hk8 : 0 ≤ k ∧ k ≤ 255 := u8_range hwf
  have ht1 : 1 ≤ 1 + k % 8 ∧ 1 + k % 8 ≤ 8 := by omega
  have htt : IntKind.i64.wrap (1 + (IntKind.i64.wrap k).tmod 8) = 1 + k % 8 := by
    rw [wrap_i64 (n := k) (by omega) (by omega), Int.tmod_eq_emod_of_nonneg hk8.1, wrap_i64 (by omega) (by omega)]
  obtain ⟨k6, e6⟩ := u.none_all hk6 (1 + k % 8) ht1
  have fA2 := answer_fn z ⟨q.name, 1 + k % 8⟩ u.few
  rw [e6] at fA2
  have k6' : ((ansR z ⟨q.name, 1 + k % 8⟩).1.kind != 6) = false := by rw [k6]; rfl
  have fL := Labels_fn q.name
  have eLb : labelsR q.name = (labs q.name, 0) := by unfold labelsR; rw [if_pos u.name]
  rw [eLb] at fL
  have fJ := Join_fn (l :: labs q.name)
  have hl8 := labs_le u.name
  generalize (ansR z ⟨q.name, 1 + k % 8⟩).1 = a2 at fA2 k6'
  have tail2 : ∀ low, joinR (l :: labs q.name) = (low, 0) → ∀ st, Weak cxW st ⟨[(4, .ptr 4 0), (5, .ptr 5 0), (9, .d (.bool true)), (21, .d (.str low))], [(4, .box ((zoneD z).map .d)), (5, .box ((questD q).map .d))]⟩ → vc cxW Tryz.f7.ntmps fzN (tailC 13 ((Tryz.f7.body).getD .skip)) (fnQ cxW Tryz.f7.results.toList (.d (.bool true)) []) st := by
    intro low hlow st hw
    obtain ⟨_, hlu, hln⟩ := low_under u.name hlow
    have fP := put_fn z ⟨⟨low, 1, 0, [⟨[], 1, 0⟩]⟩, []⟩
    cases hE : ((putR z ⟨⟨low, 1, 0, [⟨[], 1, 0⟩]⟩, []⟩).2 == 0) with
    | false =>
      have hE' : ((putR z ⟨⟨low, 1, 0, [⟨[], 1, 0⟩]⟩, []⟩).2 != 0) = true := by rw [bne, hE]; rfl
      conv => whnf
      refine ⟨_, hw, ?_⟩
      conv => whnf
      (refine ⟨_, _, fP, ?_⟩; conv => whnf)
      rw [hE']
      conv => whnf
      exact ret_data rfl rfl
    | true =>
      obtain ⟨h1, h2, a, h3, h4⟩ := put_name (s := ⟨⟨low, 1, 0, [⟨[], 1, 0⟩]⟩, []⟩) u hr he (by simpa using hE) (by show (1 : Int) ≠ 2; decide) (fun e => hln (congrArg Prod.fst e)) (fun e => hln (congrArg Prod.fst e)) hlu
      rw [h1] at fP
      have fB := answerL_fn (putZ z ⟨⟨low, 1, 0, [⟨[], 1, 0⟩]⟩, []⟩) q h2
      rw [h3] at fB
      conv => whnf
      refine ⟨_, hw, ?_⟩
      conv => whnf
      (refine ⟨_, _, fP, ?_⟩; conv => whnf)
      (refine ⟨_, _, fB, ?_⟩; conv => whnf)
      refine ret_data rfl ?_
      show AV.d (D.bool (a.kind == 5)) = _
      rw [h4]; rfl
  have tail : ∀ st, Weak cxW st (stN z q k l) → vc cxW Tryz.f7.ntmps fzN (tailC 7 ((Tryz.f7.body).getD .skip)) (fnQ cxW Tryz.f7.results.toList (.d (.bool true)) []) st := by
    intro st hw
    conv => whnf
    refine ⟨_, hw, ?_⟩
    conv => whnf
    rw [htt]
    (refine ⟨_, _, fA2, ?_⟩; conv => whnf)
    rw [k6']
    conv => whnf
    refine ⟨stN z q k l, Weak.keep ⟨⟨rfl, rfl⟩, ⟨rfl, rfl⟩, ⟨rfl, rfl⟩, ⟨rfl, rfl⟩, ⟨rfl, rfl⟩, trivial⟩ ⟨⟨rfl, rfl⟩, ⟨rfl, rfl⟩, trivial⟩, ?_⟩
    conv => whnf
    (refine ⟨_, _, fL, ?_⟩; conv => whnf)
    refine ⟨by (show 1 + ((labs q.name).map strD).length ≤ _; rw [List.length_map]; omega), by (show (1 + ((labs q.name).map strD).length) * 16 ≤ _; rw [List.length_map]; omega), ?_⟩
    conv => whnf
    refine ⟨_, fJ, rfl, ?_⟩
    conv => whnf
    cases hj : ((joinR (l :: labs q.name)).2 != 0) with
    | true =>
      conv => whnf
      exact ret_data rfl rfl
    | false =>
      conv => whnf
      have hj0 : joinR (l :: labs q.name) = ((joinR (l :: labs q.name)).1, 0) := by
        have : (joinR (l :: labs q.name)).2 = 0 := by simpa using hj
        rw [← this]
      exact tail2 _ hj0 _ (Weak.keep ⟨⟨rfl, rfl⟩, ⟨rfl, rfl⟩, ⟨rfl, rfl⟩, ⟨rfl, rfl⟩, trivial⟩ ⟨⟨rfl, rfl⟩, ⟨rfl, rfl⟩, trivial⟩)
  show NQ.Fn cxW _ _ _ _
  refine fn_of_vcz fzN tyW mixedW Tryz.func7 (by kernel_rfl) rfl (Nat.le_of_ble_eq_true rfl) ?_
  conv => whnf
  (refine ⟨_, _, head7_fn, ?_⟩; conv => whnf)
  (refine ⟨_, _, fU, ?_⟩; conv => whnf)
  (refine ⟨_, _, fA, ?_⟩; conv => whnf)
  rw [hk']
  conv => whnf
  refine ⟨Nat, fun i => ⟨[(2, .d (.int .u8 k)), (3, .d (.str l)), (4, .ptr 4 0), (5, .ptr 5 0), (9, .d (.bool true)), (46, .d (.slice 5 (z.sets.map signedD))), (47, .d (.int .i64 ((z.sets.map signedD).length : Int))), (48, .d (.int .i64 i))], [(4, .box ((zoneD z).map .d)), (5, .box ((questD q).map .d))]⟩, fun i => i ≤ z.sets.length, fun i => z.sets.length - i,
    ⟨0, by omega, Weak.keep ⟨⟨rfl, rfl⟩, ⟨rfl, rfl⟩, ⟨rfl, rfl⟩, ⟨rfl, rfl⟩, ⟨rfl, rfl⟩, ⟨rfl, rfl⟩, ⟨rfl, rfl⟩, ⟨rfl, rfl⟩, trivial⟩ ⟨⟨rfl, rfl⟩, ⟨rfl, rfl⟩, trivial⟩⟩, fun i hi => ?_⟩
  conv => whnf
  refine bcase_intro (fun h1 => ?_) (fun h1 => ?_) <;> (rw [h1]; conv => whnf)
  · have hlt : i < z.sets.length := by simp at h1; omega
    refine Exists.elim (hget i hlt) fun x hx => ?_
    refine ⟨Int.natCast_nonneg i, signedD x, map_get hx, ?_⟩
    conv => whnf
    have fUn := Under_fn x.set.name q.name
    rw [hun x (List.mem_of_getElem? hx)] at fUn
    (refine ⟨_, _, fUn, ?_⟩; conv => whnf)
    exact ⟨i + 1, hlt, by (show z.sets.length - (i + 1) < z.sets.length - i; omega), Weak.keep ⟨⟨rfl, rfl⟩, ⟨rfl, rfl⟩, ⟨rfl, rfl⟩, ⟨rfl, rfl⟩, ⟨rfl, rfl⟩, ⟨rfl, rfl⟩, ⟨rfl, rfl⟩, ⟨wrap_succ (by omega), rfl⟩, trivial⟩ ⟨⟨rfl, rfl⟩, ⟨rfl, rfl⟩, trivial⟩⟩
  · exact tail _ (Weak.keep ⟨⟨rfl, rfl⟩, ⟨rfl, rfl⟩, ⟨rfl, rfl⟩, ⟨rfl, rfl⟩, ⟨rfl, rfl⟩, trivial⟩ ⟨⟨rfl, rfl⟩, ⟨rfl, rfl⟩, trivial⟩)
end Go.Proofs.YtmgacjioflnamaaGreatDoor
