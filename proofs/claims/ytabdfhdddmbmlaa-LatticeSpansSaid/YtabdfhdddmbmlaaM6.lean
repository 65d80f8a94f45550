/- The law LatticeSpans is true of each input, and changes none. No condition. -/
import Derived.Test.YtabdfhdddmbmlaaM5
import Derived.Test.YtabdfhdddmbmlaaRows
import Derived.OpenShut
import Derived.Below
import Derived.Lib.SmallJoins
set_option linter.unusedVariables false
set_option linter.unusedSimpArgs false

namespace Go.Proofs.Ytabdfhdddmbmlaa
open Go.RowKit
/-- Rows with a nought behind. -/
def widen (a : List Row) : List Row := (List.range a.length).map fun i => a.getD i [] ++ [z0]
def wlast (C : Nat) (x : Bool × List Nat) : Row := List.replicate C z0 ++ [x]
theorem widen_len (a : List Row) : (widen a).length = a.length := by unfold widen; simp
theorem widen_row {a : List Row} {i : Nat} (hi : i < a.length) : (widen a).getD i [] = a.getD i [] ++ [z0] := by
  unfold widen; rw [List.getD_eq_getElem?_getD, List.getElem?_map, List.getElem?_range hi]; rfl
theorem snoc_low {α : Type} {l : List α} {x z : α} {c : Nat} (h : c < l.length) : (l ++ [x]).getD c z = l.getD c z := by
  simp [List.getD_eq_getElem?_getD, List.getElem?_append_left h]
theorem snoc_at {α : Type} {l : List α} {x z : α} : (l ++ [x]).getD l.length z = x := by
  simp [List.getD_eq_getElem?_getD]
theorem fit_snoc {k : Nat} {r : Row} {x : Bool × List Nat} (h : Fit k r) (hx : Lim x.2) (lx : x.2.length ≤ k) : Fit k (r ++ [x]) := fun y hy => by
  rcases List.mem_append.1 hy with hy | hy
  · exact h y hy
  · rw [List.mem_singleton.1 hy]; exact ⟨hx, lx⟩
theorem widen_fits {a : List Row} {k : Nat} (hf : Fits k a) : Fits k (widen a) := fun r hr => by
  unfold widen at hr
  obtain ⟨i, _, rfl⟩ := List.mem_map.1 hr
  exact fit_snoc (hf.get i) Lim.nil (Nat.zero_le _)
theorem wlast_fit {C k : Nat} {x : Bool × List Nat} (hx : Lim x.2) (lx : x.2.length ≤ k) : Fit k (wlast C x) :=
  fit_snoc (fun y hy => by rw [(List.mem_replicate.1 hy).2]; exact ⟨Lim.nil, Nat.zero_le _⟩) hx lx
theorem wlast_len (C : Nat) (x : Bool × List Nat) : (wlast C x).length = C + 1 := by unfold wlast; simp
section
variable {a : List Row} {x : Bool × List Nat}
theorem widen_col (hr : right a) {i : Nat} (hi : i < a.length) : ((widen a).getD i []).length = (a.getD 0 []).length + 1 := by
  rw [widen_row hi, List.length_append, (hr.get hi).2]; rfl
theorem widen_right (hr : right a) : right (widen a) := by
  refine ⟨by rw [widen_len]; exact hr.1, fun r h => ?_⟩
  rw [widen_col hr hr.1]
  unfold widen at h
  obtain ⟨i, hi, rfl⟩ := List.mem_map.1 h
  rw [List.length_append, (hr.get (List.mem_range.1 hi)).2]
  exact ⟨by simp, rfl⟩
theorem widen_at (hr : right a) {i c : Nat} (hi : i < a.length) (hc : c < (a.getD 0 []).length) : rvm (widen a) i c = rvm a i c := by
  show jv (((widen a).getD i []).getD c z0) = jv ((a.getD i []).getD c z0)
  rw [widen_row hi, snoc_low (by rw [(hr.get hi).2]; exact hc)]
theorem widen_end (hr : right a) {i : Nat} (hi : i < a.length) : rvm (widen a) i (a.getD 0 []).length = 0 := by
  show jv (((widen a).getD i []).getD (a.getD 0 []).length z0) = 0
  rw [widen_row hi, ← (hr.get hi).2, snoc_at]; rfl
theorem wlast_low {C c : Nat} (hc : c < C) : rv (wlast C x) c = 0 := by
  show jv ((List.replicate C z0 ++ [x]).getD c z0) = 0
  rw [snoc_low (by simpa using hc), List.getD_eq_getElem?_getD, List.getElem?_replicate, if_pos hc]; rfl
theorem wlast_at (C : Nat) : rv (wlast C x) C = jv x := by
  show jv ((List.replicate C z0 ++ [x]).getD C z0) = jv x
  have := snoc_at (l := List.replicate C z0) (x := x) (z := z0)
  rw [List.length_replicate] at this
  rw [this]
theorem span_not (hr : right a) (hx : jv x ≠ 0) : lins (widen a) (wlast (a.getD 0 []).length x) = ([], 8) := by
  have hC := widen_col hr hr.1
  refine lins_not (widen_right hr) (by rw [wlast_len, hC]) fun _ ⟨y, hy⟩ => ?_
  rw [hC] at hy
  have h := hy (a.getD 0 []).length (by omega)
  rw [wlast_at, widen_len] at h
  have h0 : comb a.length y (rvm (widen a)) (a.getD 0 []).length = 0 := isum_zero fun i hi => by rw [widen_end hr hi, Int.mul_zero]
  rw [h0] at h
  exact hx h.symm
theorem span_right (hr : right a) : right (widen a ++ [wlast (a.getD 0 []).length x]) := by
  have h := widen_right hr
  have e : (widen a ++ [wlast (a.getD 0 []).length x]).getD 0 [] = (widen a).getD 0 [] := snoc_low h.1
  refine ⟨by simp, fun r hm => ?_⟩
  rw [e]
  rcases List.mem_append.1 hm with hm | hm
  · exact h.2 r hm
  · rw [List.mem_singleton.1 hm, wlast_len, widen_col hr hr.1]; exact ⟨by omega, rfl⟩
theorem span_vol (hr : right a) : lvol (widen a ++ [wlast (a.getD 0 []).length x]) = lvol a * (jv x * jv x) := by
  have h := widen_right hr
  have e : (widen a ++ [wlast (a.getD 0 []).length x]).getD 0 [] = (widen a).getD 0 [] := snoc_low h.1
  have el : (widen a ++ [wlast (a.getD 0 []).length x]).length = a.length + 1 := by rw [List.length_append, widen_len]; rfl
  have er : ∀ i, i < a.length → rvm (widen a ++ [wlast (a.getD 0 []).length x]) i = rvm (widen a) i := fun i hi => by
    show rv _ = rv _
    rw [snoc_low (by rw [widen_len]; exact hi)]
  have e2 : rvm (widen a ++ [wlast (a.getD 0 []).length x]) a.length = rv (wlast (a.getD 0 []).length x) := by
    show rv _ = rv _
    have := snoc_at (l := widen a) (x := wlast (a.getD 0 []).length x) (z := [])
    rw [widen_len] at this
    rw [this]
  rw [linD_vol (span_right hr), linD_vol hr, linD_dm, linD_dm, el, e, widen_col hr hr.1]
  exact (dm_wide (b := rvm a) (fun i c hi hc => by rw [er i hi]; exact widen_at hr hi hc) (fun i hi => by rw [er i hi]; exact widen_end hr hi) (fun c hc => by rw [e2]; exact wlast_low hc) (by rw [e2]; exact wlast_at _)).1
end
theorem spans_meets (v w : Value) (a : List Row) (x : Bool × List Nat) (ha : limM a) (hx : Lim x.2) :
    Meets Try.prog 5 [v, w] [(v, W a), (w, J x)] (fun r os fs => os = [] ∧ fs = [] ∧ r = .bool true) := by
  refine meets_of_vc Try.func5 (by kernel_rfl) rfl (by kernel_rfl) (Nat.le_of_ble_eq_true rfl) ?_
  refine box_rule (Reads.fact (d := J x) mM) fun xb hxb => ?_
  refine call_fn shown4_meets (Seals.refl _ _) mS ?_
  rintro _ _ _ ⟨rfl, rfl, rfl⟩
  refine len_fact (v := v) mM fun _ => ?_
  refine cmp_split _ rfl (fun hg => ?_) (fun hg => ?_)
  ·
    exact fin ⟨rfl, rfl, rfl⟩ (Seals.trans (Seals.drop 0 _ _) (Seals.nil _ _))
  refine call_fn (little4_meets v a) (Seals.refl _ _) mS ?_
  rintro _ _ _ ⟨rfl, rfl, rfl⟩
  by_cases hs : small 4 5 1 a
  case neg =>
    rw [decide_eq_false hs]
    exact fin ⟨rfl, rfl, rfl⟩ (Seals.trans (Seals.drop 0 _ _) (Seals.nil _ _))
  rw [decide_eq_true hs]
  have hf := hs.fits ha
  have hn : a.length ≤ 3 := by omega
  refine field_box 0 rfl hxb ?_
  refine load_box_field 0 rfl (Part.right (Part.refl _)) (load_L _) fun u1 => ?_
  refine len_fact (v := u1) mM fun _ => ?_
  refine cmp_split _ rfl (fun hg2 => ?_) (fun hg2 => ?_)
  ·
    exact fin ⟨rfl, rfl, rfl⟩ (Seals.trans (Seals.drop 0 _ _) (Seals.nil _ _))
  have lx : x.2.length ≤ 1 := by omega
  refine load_box (d := J x) 0 rfl hxb rfl (load_J _) fun u2 => ?_
  refine call_fn (rSign_meets u2 x.1 x.2 hx (by omega)) (Seals.refl _ _) mS ?_
  rintro _ _ _ ⟨rfl, rfl, rfl⟩
  refine cmp_split _ rfl (fun hz => ?_) (fun hz => ?_)
  ·
    exact fin ⟨rfl, rfl, rfl⟩ (Seals.trans (Seals.drop 0 _ _) (Seals.nil _ _))
  have hx0 : jv x ≠ 0 := fun e => hz (by show (jv x).sign = 0; rw [e]; rfl)
  refine call_fn (mRight_meets v a) (Seals.refl _ _) mS ?_
  rintro _ _ _ ⟨rfl, rfl, rfl⟩
  by_cases hr : right a
  case neg =>
    rw [decide_eq_false hr]
    exact fin ⟨rfl, rfl, rfl⟩ (Seals.trans (Seals.drop 0 _ _) (Seals.nil _ _))
  rw [decide_eq_true hr]
  have hn1 := hr.1
  refine index_fact (v := v) mM 0 rfl hn1 fun i1 => ?_
  refine load_fact (d := V (a.getD 0 [])) mM (load_V _) fun i2 => ?_
  refine len_fact (v := i2) mM fun _ => ?_
  refine cmp_split _ rfl (fun hg3 => ?_) (fun hg3 => ?_)
  ·
    exact fin ⟨rfl, rfl, rfl⟩ (Seals.trans (Seals.drop 0 _ _) (Seals.nil _ _))
  have hc4 : (a.getD 0 []).length ≤ 4 := by omega
  have hlen : ∀ i, i < a.length → (a.getD i []).length = (a.getD 0 []).length := fun i hi => (hr.get hi).2
  have hEb : Eb (1 + 1 + 1) 4 ≤ 17179869184 := by decide
  have hEa : Eb (1 + 1 + 1) a.length ≤ 17179869184 := (lB_small (by omega)).1
  have h1 := lVolume_meets v a 1 hf (by decide) (by omega) (by omega) hEa
  rw [if_pos hr] at h1
  have hwf := widen_fits hf
  have hlf := wlast_fit (C := (a.getD 0 []).length) hx lx
  have hwc := widen_col hr hn1
  have h2 := fun y z => lInside_meets y z (widen a) (wlast (a.getD 0 []).length x) 1 hwf hlf (by decide) (by rw [widen_len]; omega) (by rw [hwc]; omega) (by rw [widen_len]; exact hEa)
  rw [span_not hr hx0] at h2
  have hsr := span_right (x := x) hr
  have hsl : (widen a ++ [wlast (a.getD 0 []).length x]).length = a.length + 1 := by rw [List.length_append, widen_len]; rfl
  have hsf : Fits 1 (widen a ++ [wlast (a.getD 0 []).length x]) := fun r h => by
    rcases List.mem_append.1 h with h | h
    · exact hwf r h
    · rw [List.mem_singleton.1 h]; exact hlf
  have hs0 : (widen a ++ [wlast (a.getD 0 []).length x]).getD 0 [] = (widen a).getD 0 [] := snoc_low (by rw [widen_len]; exact hn1)
  have h3 := fun y => lVolume_meets y (widen a ++ [wlast (a.getD 0 []).length x]) 1 hsf (by decide) (by omega) (by rw [hs0, hwc]; omega) (by
    rw [hsl]
    have : a.length + 1 = 1 ∨ a.length + 1 = 2 ∨ a.length + 1 = 3 ∨ a.length + 1 = 4 := by omega
    rcases this with e | e | e | e <;> rw [e] <;> decide)
  rw [if_pos hsr, span_vol hr] at h3
  have hvz : sz (lvol a) 17 := by
    rw [linD_vol hr, linD_dm]
    unfold dm dG
    have e := det_sz a.length (by omega) (k := 1 + 1 + 1) (x := sub' (gr (a.getD 0 []).length (rvm a)) (dn a.length) (dn a.length)) fun x y _ _ => gmx_sz hf (by omega) _ _
    exact e.mono (by omega)
  have hxz : sz (jv x) 1 := sz_jv hx lx
  refine empty_L V [] (by decide) fun wd0 hwd0 => ?_
  refine empty_L J z0 (by decide) fun la0 hla0 => ?_
  refine loop_rule (X := Nat × Value) (fun X => ([(0, v), (3, xb), (5, .bool true), (6, X.2), (7, la0), (8, .int .i64 (X.1 : Nat))],
      [ownL 2 J z0 la0 [], ownL 1 V [] X.2 ((List.range X.1).map fun i => a.getD i [] ++ [z0]), own1 xb 2 1 (fun _ => J x)], [(v, W a)]))
    (fun X => X.1 ≤ a.length ∧ isSl X.2) (fun X => a.length - X.1) rfl ?_ ?_
  · exact again (0, wd0) ⟨Nat.zero_le _, hwd0⟩ trivial mF (Seals.sub (fs' := [(v, W a)]) mS)
  · rintro ⟨i, wv⟩ ⟨hi, hwv⟩
    simp only at hi hwv ⊢
    refine len_fact (v := v) mM fun _ => ?_
    refine cmp_split _ rfl (fun hlt => ?_) (fun hlt => ?_)
    · have hin : i < a.length := by omega
      have hli := hlen i hin
      refine empty_L J z0 (by decide) fun r0 hr0 => ?_
      refine index_fact (v := v) mM i rfl hin fun j1 => ?_
      refine load_fact (d := V (a.getD i [])) mM (load_V _) fun j2 => ?_
      refine append_L (m := a.getD i []) 0 rfl hr0 (Knw.fact mM) (by simp only [List.length_append, List.length_nil, List.length_cons, List.length_replicate, List.length_map, List.length_range]; omega) (by simp only [List.length_append, List.length_nil, List.length_cons, List.length_replicate, List.length_map, List.length_range]; omega) fun r1 hr1 => ?_
      refine build0 (da := .one (.bool false)) (db := U []) (fun S w => ⟨[.bool false], [.slice none 0 0], rfl, rd_false S w, rd_nil S w 1 _⟩) fun zz => ?_
      refine lit_L (size := 2) J z0 z0 (by decide) (Reads.fact (v := zz) (d := J z0) mM) rfl fun l1 => ?_
      refine append_L (m := [z0]) 0 rfl hr1 (Knw.fact mM) (by simp only [List.length_append, List.length_nil, List.length_cons, List.length_replicate, List.length_map, List.length_range]; omega) (by simp only [List.length_append, List.length_nil, List.length_cons, List.length_replicate, List.length_map, List.length_range]; omega) fun r2 hr2 => ?_
      refine BuildSliceK.pre (Seals.L 0 rfl hr2) ?_
      refine lit_L (size := 1) V [] (a.getD i [] ++ [z0]) (by decide) (Reads.fact (d := V (a.getD i [] ++ [z0])) mM) rfl fun l2 => ?_
      refine append_L 1 rfl hwv (Knw.fact mM) (by simp only [List.length_append, List.length_nil, List.length_cons, List.length_replicate, List.length_map, List.length_range]; omega) (by simp only [List.length_append, List.length_nil, List.length_cons, List.length_replicate, List.length_map, List.length_range]; omega) fun w2 hw2 => ?_
      refine ar rfl mI ?_
      refine again (i + 1, w2) ⟨by simp only; omega, hw2⟩ (by simp only; omega) mF ?_
      simp only [range_snoc_map]
      exact Seals.sub (fs' := [(v, W a)]) mS
    · have hin : i = a.length := by omega
      subst hin
      refine loop_rule (X := Nat × Value) (fun X => ([(0, v), (3, xb), (5, .bool true), (6, wv), (7, X.2), (10, .int .i64 (X.1 : Nat))],
          [ownL 2 J z0 X.2 (List.replicate X.1 z0), ownL 1 V [] wv (widen a), own1 xb 2 1 (fun _ => J x)], [(v, W a)]))
        (fun X => X.1 ≤ (a.getD 0 []).length ∧ isSl X.2) (fun X => (a.getD 0 []).length - X.1) rfl ?_ ?_
      · exact again (0, la0) ⟨Nat.zero_le _, hla0⟩ trivial mF (Seals.sub (fs' := [(v, W a)]) mS)
      · rintro ⟨t, la⟩ ⟨ht, hla⟩
        simp only at ht hla ⊢
        refine index_fact (v := v) mM 0 rfl hn1 fun j1 => ?_
        refine load_fact (d := V (a.getD 0 [])) mM (load_V _) fun j2 => ?_
        refine len_fact (v := j2) mM fun _ => ?_
        refine cmp_split _ rfl (fun hlt2 => ?_) (fun hlt2 => ?_)
        ·
          refine build0 (da := .one (.bool false)) (db := U []) (fun S w => ⟨[.bool false], [.slice none 0 0], rfl, rd_false S w, rd_nil S w 1 _⟩) fun zz => ?_
          refine lit_L (size := 2) J z0 z0 (by decide) (Reads.fact (v := zz) (d := J z0) mM) rfl fun l1 => ?_
          refine append_L (m := [z0]) 0 rfl hla (Knw.fact mM) (by simp only [List.length_append, List.length_nil, List.length_cons, List.length_replicate, List.length_map, List.length_range]; omega) (by simp only [List.length_append, List.length_nil, List.length_cons, List.length_replicate, List.length_map, List.length_range]; omega) fun la2 hla2 => ?_
          refine ar rfl mI ?_
          refine again (t + 1, la2) ⟨by simp only; omega, hla2⟩ (by simp only; omega) mF ?_
          simp only [← List.replicate_succ']
          exact Seals.sub (fs' := [(v, W a)]) mS
        · have htC : t = (a.getD 0 []).length := by omega
          subst htC
          refine load_box (d := J x) 2 rfl hxb rfl (load_J _) fun u3 => ?_
          refine lit_L (size := 2) J z0 x (by decide) (Reads.fact (v := u3) (d := J x) mM) rfl fun l1 => ?_
          refine append_L (m := [x]) 0 rfl hla (Knw.fact mM) (by simp only [List.length_append, List.length_nil, List.length_cons, List.length_replicate, List.length_map, List.length_range]; omega) (by simp only [List.length_append, List.length_nil, List.length_cons, List.length_replicate, List.length_map, List.length_range]; omega) fun la2 hla2 => ?_
          refine call_fn h1 (Seals.L 0 rfl hla2) mS ?_
          rintro _ _ _ ⟨rfl, vq, rfl, rfl⟩
          refine alloc_rule (d := I false []) fun vb hvb => ?_
          refine store_box (d := zd (lvol a)) 0 rfl hvb rfl (by kernel_rfl) ?_ ?_; exact Reads.fact (v := vq) mM
          refine call_lend (h2 wv la2) (Seals.L 1 rfl hwv) (Sub.cons (List.Mem.head _) (Sub.cons (List.Mem.tail _ (List.Mem.tail _ (List.Mem.head _))) (Sub.nil _))) ?_
          rintro _ _ _ ⟨_, q, rfl, _⟩
          refine lit_L (size := 1) V [] (wlast (a.getD 0 []).length x) (by decide) (Reads.fact (v := la2) (d := V (wlast (a.getD 0 []).length x)) mM) rfl fun l2 => ?_
          refine append_L (m := [wlast (a.getD 0 []).length x]) 1 rfl hwv (Knw.fact mM) (by rw [widen_len]; simp; omega) (by rw [widen_len]; simp; omega) fun w3 hw3 => ?_
          refine call_fn (h3 w3) (Seals.L 1 rfl hw3) mS ?_
          rintro _ _ _ ⟨rfl, wq, rfl, rfl⟩
          refine alloc_rule (d := I false []) fun wb hwb => ?_
          refine store_box (d := zd (lvol a * (jv x * jv x))) 0 rfl hwb rfl (by kernel_rfl) ?_ ?_; exact Reads.fact (v := wq) mM
          refine draw_rule [0, 1, 2, 3, 4, 5, 6, 7, 8, 9, 10, 11, 12, 13, 14, 15, 16, 17, 18, 19, 20, 21, 22] [0, 1, 2, 3, 4, 5, 6, 7, 8, 9, 10, 11, 12, 13, 14, 15, 16, 17, 18, 19, 20, 21, 22] (by kernel_rfl) (by kernel_rfl) ?_
          refine cmp_true rfl rfl ?_
          refine cmp_true rfl rfl ?_
          refine cmp_true rfl rfl ?_
          refine load_box (d := zd (lvol a * (jv x * jv x))) 0 rfl hwb rfl (load_I _ _) fun y1 => ?_
          refine load_box (d := zd (lvol a)) 1 rfl hvb rfl (load_I _ _) fun y2 => ?_
          refine load_box (d := J x) 2 rfl hxb rfl (load_J _) fun y3 => ?_
          refine load_box (d := J x) 2 rfl hxb rfl (load_J _) fun y4 => ?_
          refine call_fn (rMulJ y3 y4 x x hx (by omega) hx (by omega)) (Seals.refl _ _) mS ?_
          rintro y5 _ _ ⟨rfl, rfl⟩
          refine call_fn (r4MulZ y2 y5 _ _ 17 2 hvz (hxz.mul hxz) (by decide) (by decide)) (Seals.refl _ _) mS ?_
          rintro y6 _ _ ⟨rfl, rfl⟩
          refine call_fn (exT y1 y6 _ _ rfl) (Seals.refl _ _) mS ?_
          rintro _ _ _ ⟨rfl, rfl, rfl⟩
          exact fin ⟨rfl, rfl, rfl⟩ (by repeat (first | exact Seals.nil _ _ | refine Seals.trans (Seals.drop 0 _ _) ?_))
end Go.Proofs.Ytabdfhdddmbmlaa

namespace Go.Proofs.Ytabdfhdddmbmlaa
open Go.ChangeShapes Go.WideShapes Go.ChangeAt Go.RowKit
open Go.Joins (open_agg2)
set_option maxRecDepth 100000 in
theorem latticeSpans_lifted (os : Os) (started : os.Started) (H : Type) (enc : TypeId × Value → H) :
    ReturnsInHanded {} Try.checked os 5 .any (Rows.latticeSpansSpec.pre6 enc Try.prog Try.f5 Rows.latticeSpansRow.domain false) (Rows.latticeSpansSpec.post enc Try.prog Try.f5 false true false false) := by
  refine returnsInHanded_of_change (C := Try.checked) own0 started (by kernel_rfl) Try.func5
    (ChangeSpec.witness6 (enc := enc) (C := Try.checked) false ⟨#[], #[.slice none 0 0, .agg #[.bool false, .slice none 0 0]], []⟩ 8 (by kernel_rfl) (by kernel_rfl) (by kernel_rfl) (by kernel_rfl)) ?_
  intro Wd base args ds gs before hval0 hW hcnd _
  have hval : ∀ (j : Nat) t v, Try.f5.params[j]? = some t → args[j]? = some v → Value.okWide Try.prog Wd .any base t v := hval0
  have hW' := hW
  obtain ⟨p, q, hA0, hV, rfl, hfz, hnd⟩ := hW
  have hA : DataW.TrodAll enc Try.prog Wd 0 (fun _ => true) true Try.f5.params.toList args.toList ds p := hA0
  rw [Try.params5] at hA hval
  obtain ⟨v0, vs0, d0, ds0, p0, q0, hargs, rfl, rfl, h0, r0⟩ := trodAll_cons hA
  obtain ⟨v1, vs1, d1, ds1, p1, q1, rfl, rfl, rfl, h1, r1⟩ := trodAll_cons r0
  obtain ⟨rfl, rfl, rfl⟩ := trodAll_nil r1
  obtain rfl : args = #[v0, v1] := by cases args; simp_all
  obtain ⟨rfl, rfl⟩ := trodVars_none hV
  obtain ⟨a0, n0, c0, rfl⟩ := okWide_slice Try.underlying22 (hval 0 22 v0 rfl rfl)
  have k0 := h0
  have lt0 : ∀ x ∈ p0, x.block < Wd.heap.size := by obtain ⟨m, hm⟩ := k0; exact DataW.trod_lt m _ _ _ hm
  obtain ⟨m0, lm0, rd0⟩ : ∃ m, limM m ∧ Rd (fun b => b < Wd.heap.size) Wd (.slice a0 n0 c0) (W m) := by
    obtain ⟨fuel, hf⟩ := h0
    obtain ⟨m, e1, e2⟩ := rd_rows hf
    exact ⟨m, e1, rd_val rfl e2⟩
  have k1 := h1
  have lt1 : ∀ x ∈ p1, x.block < Wd.heap.size := by obtain ⟨m, hm⟩ := k1; exact DataW.trod_lt m _ _ _ hm
  obtain ⟨m1, lm1, rd1⟩ : ∃ m : Bool × List Nat, Lim m.2 ∧ Rd (fun b => b < Wd.heap.size) Wd v1 (J m) := rd_arg (hval 1 33 v1 rfl rfl) h1
  clear hA0 hval0
  refine (calls_of_meets (w := Wd) (spans_meets (.slice a0 n0 c0) v1 m0 m1 lm0 lm1) ?_).mono fun e W2 ⟨he, bel⟩ => ?_
  · intro F hF
    simp only [List.mem_cons, List.not_mem_nil, or_false] at hF
    rcases hF with rfl | rfl
    · exact rd0
    · exact rd1
  subst he
  exact ⟨_, rfl, _, _, _, [], _, [], hW', trodAll_mk1 (shut_bool Try.underlying4 _), (trodAll_cons_mk (Below.trod laid0 (by kernel_rfl) (of_decide_eq_true (by kernel_rfl)) k0 bel lt0) (trodAll_cons_mk (Below.trod laid0 (by kernel_rfl) (of_decide_eq_true (by kernel_rfl)) k1 bel lt1) trodAll_mk0)), rfl, bel.frame _, fun h => by cases h⟩
theorem latticeSpans_holds : Rows.LatticeSpansSaid :=
  OpenClaim.holds_of_wide 5 Try.f5 rfl rfl rfl rfl rfl rfl rfl ⟨rfl, rfl, rfl, rfl, rfl⟩ rfl rfl rfl rfl rfl (by kernel_rfl) Try.func5 (by kernel_rfl)
    (of_decide_eq_true (by kernel_rfl)) (by unfold Func.isWrapper; first | (rw [if_pos (by decide +kernel)]; kernel_rfl) | (rw [if_neg (by decide +kernel)]; exact ⟨rfl, rfl⟩))
    (fun os started H enc _ => latticeSpans_lifted os started H enc)
#print axioms latticeSpans_holds
end Go.Proofs.Ytabdfhdddmbmlaa
