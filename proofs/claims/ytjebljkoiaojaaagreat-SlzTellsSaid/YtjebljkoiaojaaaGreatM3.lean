/- Towards the statement, part 3 of 8: contracts of functions, and what they rest on. Conditions: each theorem names its own. -/
import Derived.Test.YtjebljkoiaojaaaGreatM2
import Derived.ProofKit
import Derived.Deep.Slices
import Derived.Maps.Range
set_option linter.unusedVariables false
set_option linter.unusedSimpArgs false
namespace Go.Proofs.YtjebljkoiaojaaaGreat
open Go.RowKit
theorem rOwn_meets (v : Value) (a : Row) (ll : a.length ≤ 274877906944) (hk : ∀ x, x ∈ a → x.2.length ≤ 1099511627776) :
    Meets Tryz.prog 50 [v] [(v, V a)] (fun r os fs => os = [ownL 2 J z0 r a] ∧ isSl r ∧ fs = []) := by
  refine meets_of_vc Tryz.func50 (by kernel_rfl) rfl (by kernel_rfl) (Nat.le_of_ble_eq_true rfl) ?_
  refine empty_L J z0 (by decide) fun w hw => ?_
  refine loop_rule (X := Nat × Value) (fun x => ([(0, v), (3, x.2), (4, .int .i64 (x.1 : Nat))], [ownL 2 J z0 x.2 (a.take x.1)], [(v, V a)])) (fun x => x.1 ≤ a.length ∧ isSl x.2) (fun x => a.length - x.1) rfl ?_ ?_
  · exact again (0, w) ⟨Nat.zero_le _, hw⟩ trivial qF (by simp only [List.take_zero]; exact Seals.sub qS)
  · rintro ⟨i, w⟩ ⟨h1, hw⟩
    simp only at h1 hw ⊢
    refine len_fact qM fun _ => ?_
    refine cmp_split _ rfl (fun hi => ?_) (fun hi => ?_)
    · have hlt : i < a.length := by omega
      have hmag : (a.getD i z0).2.length ≤ 1099511627776 := hk _ (by rw [List.getD_eq_getElem?_getD, List.getElem?_eq_getElem hlt]; exact List.getElem_mem hlt)
      refine empty_U fun u hu => ?_
      refine index_fact qM i rfl hlt fun a1 => ?_
      refine field_fact (off := 1) (d := J (a.getD i z0)) (d' := U (a.getD i z0).2) qM (Part.right (Part.refl _)) fun a2 => ?_
      refine load_fact (d := U (a.getD i z0).2) qM (load_L _) fun x1 => ?_
      refine AppendK.post (append_U (l := []) 0 rfl hu (Knw.fact qM) (by simp only [List.length_nil]; omega) (by simp only [List.length_nil]; omega) fun u2 hu2 => ⟨_, _, Seals.U 0 rfl hu2, ?_⟩)
      rw [List.nil_append]
      refine index_fact qM i rfl hlt fun a3 => ?_
      refine field_fact (off := 0) (d := J (a.getD i z0)) (d' := .one (.bool (a.getD i z0).1)) qM (Part.left (Part.refl _)) fun a4 => ?_
      refine load_one qM ?_
      refine build2 (Knw.one rfl) (Knw.fact qM) rfl rfl fun s => ?_
      refine lit_L (size := 2) J z0 (a.getD i z0) (by decide) (Reads.fact qM) rfl fun l1 => ?_
      refine append_L 0 rfl hw (Knw.fact qM) (by simp; omega) (by simp; omega) fun w2 hw2 => ?_
      refine ar rfl qI ?_
      refine again (i + 1, w2) ⟨by simp only; omega, hw2⟩ (by simp only; omega) qF ?_
      have e : a.take (i + 1) = a.take i ++ [a.getD i z0] := by rw [List.take_add_one]; simp [List.getD_eq_getElem?_getD, hlt]
      simp only [e]
      exact Seals.sub qS
    · have hia : i = a.length := by omega
      refine fin ⟨?_, hw, rfl⟩ (Seals.nil _ _)
      rw [hia, List.take_length]; rfl
theorem zero_meets (v : Value) (x : Bool × List Nat) (hx : Lim x.2) (hl : x.2.length ≤ 1099511627776) :
    Meets Tryz.prog 69 [v] [(v, J x)] (fun r os fs => os = [] ∧ fs = [] ∧ r = .bool (decide (jv x = 0))) := by
  refine meets_of_vc Tryz.func69 (by kernel_rfl) rfl (by kernel_rfl) (Nat.le_of_ble_eq_true rfl) ?_
  refine box_rule (Reads.fact (d := J x) qM) fun p hp => ?_
  refine load_box (d := J x) 0 rfl hp rfl (load_J _) fun u => ?_
  refine call_fn (rSign_meets u x.1 x.2 hx hl) (Seals.refl _ _) qS ?_
  rintro _ _ _ ⟨rfl, rfl, rfl⟩
  refine cmp_split _ rfl (fun hc => ?_) (fun hc => ?_)
  · refine fin ⟨rfl, rfl, ?_⟩ (Seals.trans (Seals.drop 0 _ _) (Seals.nil _ _))
    exact congrArg Value.bool (decide_eq_true (show jv x = 0 from Int.sign_eq_zero_iff_zero.1 hc)).symm
  · refine fin ⟨rfl, rfl, ?_⟩ (Seals.trans (Seals.drop 0 _ _) (Seals.nil _ _))
    exact congrArg Value.bool (decide_eq_false (fun e : jv x = 0 => hc (Int.sign_eq_zero_iff_zero.2 e))).symm
def degTo (l : List Int) : Nat → Int
  | 0 => -1
  | k + 1 => if l.getD k 0 = 0 then degTo l k else (k : Int)
def deg (l : List Int) : Int := degTo l l.length
theorem vv_get (r : Row) (i : Nat) (h : i < r.length) : (vv r).getD i 0 = jv (r.getD i z0) := by
  unfold vv; simp [List.getD_eq_getElem?_getD, h]
theorem vv_len (r : Row) : (vv r).length = r.length := by unfold vv; simp
theorem rDegree_meets (v : Value) (a : Row) (ha : Fit 1099511627776 a) :
    Meets Tryz.prog 29 [v] [(v, V a)] (fun r os fs => os = [] ∧ fs = [] ∧ r = .int .i64 (deg (vv a))) := by
  refine meets_of_vc Tryz.func29 (by kernel_rfl) rfl (by kernel_rfl) (Nat.le_of_ble_eq_true rfl) ?_
  refine len_fact qM fun _ => ?_
  refine ar rfl qI ?_
  refine loop_rule (X := Nat) (fun k => ([(0, v), (3, .int .i64 ((k : Int) - 1))], [], [(v, V a)])) (fun k => k ≤ a.length ∧ degTo (vv a) k = deg (vv a)) (fun k => k) rfl ?_ ?_
  · exact again a.length ⟨Nat.le_refl _, by unfold deg; rw [vv_len]⟩ trivial qF (Seals.sub qS)
  · rintro k ⟨h1, h2⟩
    refine cmp_split _ rfl (fun hc => ?_) (fun hc => ?_)
    · obtain ⟨i, rfl⟩ : ∃ i, k = i + 1 := ⟨k - 1, by omega⟩
      refine index_fact qM i (by omega) (by omega) fun a1 => ?_
      refine load_fact (d := J (a.getD i z0)) qM (load_J _) fun x1 => ?_
      refine call_fn (zero_meets x1 (a.getD i z0) (ha.get i).1 (ha.get i).2) (Seals.refl _ _) qS ?_
      rintro _ _ _ ⟨rfl, rfl, rfl⟩
      have hg := vv_get a i (by omega)
      by_cases hz : jv (a.getD i z0) = 0
      · rw [decide_eq_true hz]
        refine ar rfl qI ?_
        refine again i ⟨by omega, ?_⟩ (by simp only; omega) qF (Seals.sub qS)
        rw [← h2, degTo, if_pos (by rw [hg]; exact hz)]
      · rw [decide_eq_false hz]
        refine fin ⟨rfl, rfl, ?_⟩ (Seals.nil _ _)
        rw [← h2, degTo, if_neg (by rw [hg]; exact hz)]
        exact congrArg (Value.int .i64) (by omega)
    · have hk : k = 0 := by omega
      subst hk
      exact fin ⟨rfl, rfl, by rw [← h2]; rfl⟩ (Seals.nil _ _)
theorem zd_zero : zd 0 = I false [] := by unfold zd; rw [show (0 : Int).natAbs = 0 from rfl, lims_zero]; rfl
theorem rAt_meets (v : Value) (a : Row) (i : Int) (ha : Fit 1099511627776 a) :
    Meets Tryz.prog 109 [v, .int .i64 i] [(v, V a)] (fun r os fs => os = [] ∧ fs = [(r, zd (if i < 0 then 0 else (vv a).getD i.toNat 0))]) := by
  refine meets_of_vc Tryz.func109 (by kernel_rfl) rfl (by kernel_rfl) (Nat.le_of_ble_eq_true rfl) ?_
  refine alloc_rule (d := I false []) fun o ho => ?_
  have zero : (if i < 0 then (0 : Int) else (vv a).getD i.toNat 0) = 0 → True := fun _ => trivial
  refine cmp_split _ rfl (fun hc => ?_) (fun hc => ?_)
  · refine build0 (da := .one (.bool false)) (db := U (lims 0)) (fun S w => ⟨[.bool false], [.slice none 0 0], rfl, rd_false S w, by rw [lims_zero]; exact rd_nil S w 1 _⟩) fun z => ?_
    refine store_box (d := zd 0) 0 rfl ho rfl (by kernel_rfl) ?_ ?_; exact Reads.fact qM
    refine load_box (d := zd 0) 0 rfl ho rfl (load_I _ _) fun r => ?_
    rw [if_pos hc]
    exact fin ⟨rfl, rfl⟩ (Seals.trans (Seals.drop 0 _ _) (Seals.sub qS))
  · refine len_fact qM fun _ => ?_
    refine cmp_split _ rfl (fun hd => ?_) (fun hd => ?_)
    · refine build0 (da := .one (.bool false)) (db := U (lims 0)) (fun S w => ⟨[.bool false], [.slice none 0 0], rfl, rd_false S w, by rw [lims_zero]; exact rd_nil S w 1 _⟩) fun z => ?_
      refine store_box (d := zd 0) 0 rfl ho rfl (by kernel_rfl) ?_ ?_; exact Reads.fact qM
      refine load_box (d := zd 0) 0 rfl ho rfl (load_I _ _) fun r => ?_
      rw [if_neg hc, show (vv a).getD i.toNat 0 = 0 from by rw [List.getD_eq_getElem?_getD, List.getElem?_eq_none (by rw [vv_len]; omega)]; rfl]
      exact fin ⟨rfl, rfl⟩ (Seals.trans (Seals.drop 0 _ _) (Seals.sub qS))
    · refine index_fact qM i.toNat (by omega) (by omega) fun a1 => ?_
      refine load_fact (d := J (a.getD i.toNat z0)) qM (load_J _) fun x1 => ?_
      refine call_fn (rZNorm_meets x1 (a.getD i.toNat z0).1 (a.getD i.toNat z0).2 (ha.get _).1 (ha.get _).2) (Seals.refl _ _) qS ?_
      rintro w _ _ ⟨rfl, rfl⟩
      refine store_box (d := zd (iv (a.getD i.toNat z0).1 (a.getD i.toNat z0).2)) 0 rfl ho rfl (by kernel_rfl) ?_ ?_; exact Reads.fact qM
      refine load_box (d := zd (iv (a.getD i.toNat z0).1 (a.getD i.toNat z0).2)) 0 rfl ho rfl (load_I _ _) fun r => ?_
      rw [if_neg hc, vv_get a _ (by omega)]
      exact fin ⟨rfl, rfl⟩ (Seals.trans (Seals.drop 0 _ _) (Seals.sub qS))
open Go.RowKit
def right {α : Type} (m : List (List α)) : Prop := 0 < m.length ∧ ∀ r, r ∈ m → 0 < r.length ∧ r.length = (m.getD 0 []).length
instance {α : Type} (m : List (List α)) : Decidable (right m) := inferInstanceAs (Decidable (_ ∧ _))
instance {α : Type} (m : List (List α)) : Decidable (square m) := inferInstanceAs (Decidable (_ ∧ _))
theorem getD_mem {α : Type} {l : List α} {i : Nat} (z : α) (h : i < l.length) : l.getD i z ∈ l := by
  rw [List.getD_eq_getElem?_getD, List.getElem?_eq_getElem h]; exact List.getElem_mem h
theorem mem_getD {α : Type} {l : List α} {x : α} (z : α) (h : x ∈ l) : ∃ i, i < l.length ∧ l.getD i z = x := by
  obtain ⟨i, hi, rfl⟩ := List.getElem_of_mem h
  exact ⟨i, hi, by simp [List.getD_eq_getElem?_getD, hi]⟩
theorem right_of {α : Type} {m : List (List α)} (h0 : 0 < m.length) (h : ∀ i, i < m.length → 0 < (m.getD i []).length ∧ (m.getD i []).length = (m.getD 0 []).length) : right m :=
  ⟨h0, fun r hr => by obtain ⟨i, hi, rfl⟩ := mem_getD [] hr; exact h i hi⟩
theorem right.get {α : Type} {m : List (List α)} (h : right m) {i : Nat} (hi : i < m.length) : 0 < (m.getD i []).length ∧ (m.getD i []).length = (m.getD 0 []).length := h.2 _ (getD_mem [] hi)
theorem mRight_meets (v : Value) (m : List Row) :
    Meets Tryz.prog 70 [v] [(v, W m)] (fun r os fs => os = [] ∧ fs = [] ∧ r = .bool (decide (right m))) := by
  refine meets_of_vc Tryz.func70 (by kernel_rfl) rfl (by kernel_rfl) (Nat.le_of_ble_eq_true rfl) ?_
  refine len_fact qM fun _ => ?_
  refine cmp_split _ rfl (fun hc => ?_) (fun hc => ?_)
  · exact fin ⟨rfl, rfl, congrArg Value.bool (decide_eq_false fun e => by have := e.1; omega).symm⟩ (Seals.nil _ _)
  · refine index_fact qM 0 rfl (by omega) fun a3 => ?_
    refine load_fact (d := V (m.getD 0 [])) qM (load_V _) fun x3 => ?_
    refine len_fact qM fun _ => ?_
    refine cmp_split _ rfl (fun hd => ?_) (fun hd => ?_)
    · exact fin ⟨rfl, rfl, congrArg Value.bool (decide_eq_false fun e => by have := (e.get (i := 0) (by omega)).1; omega).symm⟩ (Seals.nil _ _)
    · refine len_fact qM fun _ => ?_
      refine loop_rule (X := Nat) (fun i => ([(0, v), (15, v), (16, .int .i64 (m.length : Nat)), (17, .int .i64 (i : Nat))], [], [(v, W m)]))
        (fun i => i ≤ m.length ∧ ∀ k, k < i → 0 < (m.getD k []).length ∧ (m.getD k []).length = (m.getD 0 []).length) (fun i => m.length - i) rfl ?_ ?_
      · exact again 0 ⟨Nat.zero_le _, fun k hk => absurd hk (Nat.not_lt_zero _)⟩ trivial qF (Seals.sub qS)
      · rintro i ⟨h1, h2⟩
        refine cmp_split _ rfl (fun hi => ?_) (fun hi => ?_)
        · have hlt : i < m.length := by omega
          refine index_fact qM i rfl hlt fun a1 => ?_
          refine load_fact (d := V (m.getD i [])) qM (load_V _) fun x1 => ?_
          refine len_fact qM fun _ => ?_
          refine index_fact qM 0 rfl (by omega) fun a3 => ?_
          refine load_fact (d := V (m.getD 0 [])) qM (load_V _) fun x3 => ?_
          refine len_fact qM fun _ => ?_
          refine cmp_split _ rfl (fun he => ?_) (fun he => ?_)
          · exact fin ⟨rfl, rfl, congrArg Value.bool (decide_eq_false fun e => by have := (e.get hlt).2; omega).symm⟩ (Seals.nil _ _)
          · refine ar rfl qI ?_
            refine again (i + 1) ⟨by omega, fun k hk => ?_⟩ (by simp only; omega) qF (Seals.sub qS)
            by_cases hki : k = i
            · subst hki; omega
            · exact h2 k (by omega)
        · exact fin ⟨rfl, rfl, congrArg Value.bool (decide_eq_true (right_of (by omega) fun k hk => h2 k (by omega))).symm⟩ (Seals.nil _ _)
theorem rowsExact_meets (v w : Value) (a b : List Row) :
    Meets Tryz.prog 20 [v, w] [(v, W a), (w, W b)] (fun r os fs => os = [] ∧ fs = [] ∧ r = .bool (decide (a = b))) := by
  refine meets_of_vc Tryz.func20 (by kernel_rfl) rfl (by kernel_rfl) (Nat.le_of_ble_eq_true rfl) ?_
  refine len_fact qM fun _ => ?_
  refine len_fact qM fun _ => ?_
  refine cmp_split _ rfl (fun hl => ?_) (fun hl => ?_)
  · exact fin ⟨rfl, rfl, congrArg Value.bool (decide_eq_false (fun e => hl (by rw [e]))).symm⟩ (Seals.nil _ _)
  · have hl' : a.length = b.length := by omega
    refine loop_rule (X := Nat) (fun i => ([(0, v), (1, w), (5, .int .i64 (i : Nat))], [], [(v, W a), (w, W b)]))
      (fun i => i ≤ a.length ∧ ∀ k, k < i → a.getD k [] = b.getD k []) (fun i => a.length - i) rfl ?_ ?_
    · exact again 0 ⟨Nat.zero_le _, fun k hk => absurd hk (Nat.not_lt_zero _)⟩ trivial qF (Seals.sub qS)
    · rintro i ⟨h1, h2⟩
      refine len_fact qM fun _ => ?_
      refine cmp_split _ rfl (fun hi => ?_) (fun hi => ?_)
      · refine draw_rule [0, 1, 2, 3, 4, 5, 6, 7, 8, 9] [0, 1, 2, 3, 4, 5, 6, 7, 8, 9] (by kernel_rfl) (by kernel_rfl) ?_
        refine index_fact qM i rfl (by omega) fun a1 => ?_
        refine load_fact (d := V (a.getD i [])) qM (load_V _) fun x1 => ?_
        refine index_fact qM i rfl (by omega) fun a2 => ?_
        refine load_fact (d := V (b.getD i [])) qM (load_V _) fun x2 => ?_
        refine call_fn (exactAll_meets x1 x2 (a.getD i []) (b.getD i [])) (Seals.refl _ _) qS ?_
        rintro _ _ _ ⟨rfl, rfl, rfl⟩
        by_cases he : a.getD i [] = b.getD i []
        · rw [decide_eq_true he]
          refine ar rfl qI ?_
          refine again (i + 1) ⟨by omega, fun k hk => ?_⟩ (by simp only; omega) qF (Seals.sub qS)
          by_cases hki : k = i
          · subst hki; exact he
          · exact h2 k (by omega)
        · rw [decide_eq_false he]
          exact fin ⟨rfl, rfl, congrArg Value.bool (decide_eq_false (fun e => he (by rw [e]))).symm⟩ (Seals.nil _ _)
      · exact fin ⟨rfl, rfl, congrArg Value.bool (decide_eq_true (row_eq_of_getD [] hl' fun k hk => h2 k (by omega))).symm⟩ (Seals.nil _ _)
instance (n k c : Nat) (m : List Row) : Decidable (small n k c m) := inferInstanceAs (Decidable (_ ∧ _))
open Go.RowKit
theorem BuildSliceK.pre {P : Program} {t : TypeId} {n : Nat} {ps : List (Nat × Value)} {os os' : List Own} {fs fs' : List Fact} {K : Cont} (hs : Seals os fs os' fs') (h : BuildSliceK P t n ps os' fs' K) : BuildSliceK P t n ps os fs K :=
  ⟨fun G w hw => h.out G w (hs G w hw)⟩
theorem take_snoc' {α : Type} {l : List α} {i : Nat} (z : α) (h : i < l.length) : l.take (i + 1) = l.take i ++ [l.getD i z] := by
  rw [List.take_add_one]; simp [List.getD_eq_getElem?_getD, h]
theorem slice_L {α : Type} {size : Nat} {f : α → Dat} {z : α} {P : Program} {t e : TypeId} {v : Value} {l : List α} {kl kh : IntKind} {os : List Own} {fs : List Fact} {K : Cont} [ht : TSl P t e size]
    (hm : (v, LD size f z l) ∈ fs) (lo hi : Nat) (x y : Option Value) (hl : (x = none ∧ lo = 0) ∨ x = some (.int kl lo)) (hh : (y = none ∧ hi = l.length) ∨ y = some (.int kh hi)) (h1 : lo ≤ hi) (h2 : hi ≤ l.length)
    (k : ∀ u, K u os ((u, LD size f z ((l.take hi).drop lo)) :: (u, .sl size (hi - lo) fun i => f (l.getD (lo + i) z)) :: fs)) : SliceK P t v x y none os fs K := by
  have h := slice_fact (P := P) (t := t) (os := os) (fs := fs) (K := fun u os' fs' => os' = os ∧ fs' = (u, .sl size (hi - lo) fun i => f (l.getD (lo + i) z)) :: fs) hm lo hi x y hl hh h1 h2 fun u => ⟨rfl, rfl⟩
  refine ⟨fun G w hw => ?_⟩
  obtain ⟨u, fs', e1, ⟨_, rfl⟩, hw'⟩ := h.out G w hw
  refine ⟨u, _, e1, k u, ?_⟩
  refine Seals.add (Knw.cast (Knw.sl_cong (e' := fun i => f (((l.take hi).drop lo).getD i z)) (Knw.fact (List.Mem.head _)) fun i hi' => ?_) ?_) G w hw'
  · simp only [List.getD_eq_getElem?_getD, List.getElem?_drop]
    rw [List.getElem?_take_of_lt (by omega)]
  · unfold LD
    rw [List.length_drop, List.length_take, Nat.min_eq_left h2]
open Go.RowKit
def addE (x : Nat) : Nat → List Oper → List Oper
  | _, [] => []
  | 0, o :: r => { o with after := o.after.push ⟨x, .chain⟩ } :: r
  | k + 1, o :: r => o :: addE x k r
theorem addE_get (x : Nat) : ∀ (k : Nat) (L : List Oper) (i : Nat), (addE x k L)[i]? = if i = k then (L[i]?).map fun o => { o with after := o.after.push ⟨x, .chain⟩ } else L[i]?
  | _, [], i => by simp [addE]
  | 0, o :: r, 0 => by simp [addE]
  | 0, o :: r, i + 1 => by simp [addE]
  | k + 1, o :: r, 0 => by simp [addE]
  | k + 1, o :: r, i + 1 => by simp [addE, addE_get x k r i]
theorem addE_len (x : Nat) : ∀ (k : Nat) (L : List Oper), (addE x k L).length = L.length
  | _, [] => by simp [addE]
  | 0, o :: r => by simp [addE]
  | k + 1, o :: r => by simp [addE, addE_len x k r]
theorem yielded_addE (x k : Nat) (L : List Oper) (t : Array Value) : yielded (addE x k L).toArray t = yielded L.toArray t := by
  funext i
  have h : ((addE x k L).toArray[i]?).bind (·.dst) = (L.toArray[i]?).bind (·.dst) := by
    simp only [List.getElem?_toArray, addE_get]
    split
    · cases L[i]? <;> rfl
    · rfl
  simp only [yielded, h]
theorem wpOps_addE {P : Program} {x k : Nat} {L : List Oper} {Q : Exit → Act → World → Prop} : ∀ (l : List Nat), wpOps P (addE x k L).toArray Q l = wpOps P L.toArray Q l
  | [] => rfl
  | i :: rest => by
    have ih := wpOps_addE (P := P) (x := x) (k := k) (L := L) (Q := Q) rest
    funext a w
    simp only [wpOps, yielded_addE, ih, List.getElem?_toArray, addE_get]
    by_cases hik : i = k
    · rw [if_pos hik]
      cases L[i]? <;> rfl
    · rw [if_neg hik]
structure OrdK (P : Program) (N : Nat) (L : List Oper) (f : Fr) (os : List Own) (fs : List Fact) (K : Next1) : Prop where
  out : ∀ (G : Ctx) (Q : Post), Q .normal = K → ∀ l, Order .any L l → ∀ a w, Knows N f a → Holds G os fs w → wpOps P L.toArray (Qhat N G Q) l a w
theorem schedule_ord {L : List Oper} {g : List Nat} (h : edgesOK L.length g 0 L = true) (mixed : Bool) (t : Nat) : Order .any L (Region.schedule mixed L.toArray t) := by
  have he := edgesOK_sound h
  have weaken : ∀ {m : Region.Mode} {l : List Nat}, Order m L l → Order .any L l := fun ho => ⟨ho.nodup, ho.all, fun pre i post hp j ⟨o, h1, e, h2, h3, h4⟩ => ho.before pre i post hp j ⟨o, h1, e, h2, binds_any h3, h4⟩⟩
  have text : ∀ t, Order .text L (Region.linearise .text L.toArray t) := fun t => linearise_order (ops := L.toArray) id (fun i j ⟨o, h1, e, h2, h3, h4⟩ => by
    have := he i o h1 e h2; subst h4; exact ⟨by simpa using this.1, by simpa using this.2.1 h3⟩) t
  have any : ∀ t, Order .any L (Region.linearise .any L.toArray t) := fun t => linearise_order (ops := L.toArray) id (fun i j ⟨o, h1, e, h2, h3, h4⟩ => by
    have := he i o h1 e h2; subst h4; exact ⟨by simpa using this.1, by simpa using this.2.2.1 h3⟩) t
  have gc : ∀ t, Order .gc L (Region.linearise .gc L.toArray t) := fun t => linearise_order (ops := L.toArray) (posOf g) (fun i j ⟨o, h1, e, h2, h3, h4⟩ => by
    have := he i o h1 e h2; subst h4; exact ⟨by simpa using this.1, by simpa using this.2.2.2 h3⟩) t
  unfold Region.schedule
  split
  · exact any t
  · split
    · exact weaken (text _)
    · exact weaken (gc _)
theorem draw_ord {P : Program} {N id : Nat} {L : List Oper} {f : Fr} {os : List Own} {fs : List Fact} {K : Next1} (g : List Nat) (hok : edgesOK L.length g 0 L = true) (h : OrdK P N L f os fs K) : DrawK P N id L f os fs K :=
  ⟨fun G Q hQ a w hk hw => wp_region_draw fun t => h.out G Q hQ _ (schedule_ord hok _ t) a _ hk (hw.grow ((Below.refl w.heap.size w).drew))⟩
theorem ord_split {P : Program} {N : Nat} {L : List Oper} {f : Fr} {os : List Own} {fs : List Fact} {K : Next1} (x y : Nat) (hx : Nat.blt x L.length = true) (hy : Nat.blt y L.length = true) (hne : Nat.beq x y = false)
    (h1 : OrdK P N (addE x y L) f os fs K) (h2 : OrdK P N (addE y x L) f os fs K) : OrdK P N L f os fs K := by
  refine ⟨fun G Q hQ l hl a w hk hw => ?_⟩
  have hx' : x < L.length := by simpa using hx
  have hy' : y < L.length := by simpa using hy
  have hne' : x ≠ y := fun e => by subst e; simp at hne
  have key : ∀ x y, (∀ pre post, l = pre ++ y :: post → x ∈ pre) → Order .any (addE x y L) l := by
    intro x y hxy
    refine ⟨hl.nodup, fun i => by rw [addE_len]; exact hl.all i, fun pre i post hp j ⟨o, h1, e, h2, h3, h4⟩ => ?_⟩
    rw [addE_get] at h1
    by_cases hik : i = y
    · rw [if_pos hik] at h1
      cases hL : L[i]? with
      | none => simp [hL] at h1
      | some o' =>
        simp only [hL, Option.map_some, Option.some.injEq] at h1
        subst h1
        simp only [Array.toList_push, List.mem_append, List.mem_singleton] at h2
        rcases h2 with h2 | h2
        · exact hl.before pre i post hp j ⟨o', hL, e, h2, h3, h4⟩
        · subst h2
          simp only at h4
          subst h4
          exact hxy pre post (by rw [hp, hik])
    · rw [if_neg hik] at h1
      exact hl.before pre i post hp j ⟨o, h1, e, h2, h3, h4⟩
  have hxm : x ∈ l := (hl.all x).2 hx'
  have hym : y ∈ l := (hl.all y).2 hy'
  obtain ⟨pre, post, rfl⟩ := List.append_of_mem hym
  have hnod := hl.nodup
  have uniq : ∀ (z : Nat) (p q p' q' : List Nat), (p ++ z :: q).Nodup → p ++ z :: q = p' ++ z :: q' → p = p' := by
    intro z p
    induction p with
    | nil =>
      intro q p' q' hn he
      cases p' with
      | nil => rfl
      | cons c p' =>
        simp only [List.nil_append, List.cons_append, List.cons.injEq] at he
        obtain ⟨rfl, rfl⟩ := he
        simp at hn
    | cons c p ih =>
      intro q p' q' hn he
      cases p' with
      | nil =>
        simp only [List.nil_append, List.cons_append, List.cons.injEq] at he
        obtain ⟨rfl, rfl⟩ := he
        simp at hn
      | cons c' p' =>
        simp only [List.cons_append, List.cons.injEq] at he
        obtain ⟨rfl, he⟩ := he
        rw [ih q p' q' (List.nodup_cons.1 hn).2 he]
  rcases List.mem_append.1 hxm with hm | hm
  · have := h1.out G Q hQ _ (key x y fun pre' post' hp => by rw [← uniq y pre post pre' post' hnod hp]; exact hm) a w hk hw
    rwa [wpOps_addE] at this
  · rcases List.mem_cons.1 hm with rfl | hm
    · exact absurd rfl hne'
    · obtain ⟨p2, q2, rfl⟩ := List.append_of_mem hm
      have := h2.out G Q hQ _ (key y x fun pre' post' hp => by
        have e : pre ++ y :: (p2 ++ x :: q2) = (pre ++ y :: p2) ++ x :: q2 := by simp
        rw [← uniq x (pre ++ y :: p2) q2 pre' post' (by rw [← e]; exact hnod) (by rw [← e]; exact hp)]
        simp) a w hk hw
      rwa [wpOps_addE] at this
def ordOK (L : List Oper) (c : List Nat) : Bool :=
  Nat.beq c.length L.length && (List.range L.length).all (fun i => c.any (Nat.beq i)) && pairsOK L (ancs L []) c
theorem ordOK_sound {L : List Oper} {c : List Nat} (h : ordOK L c = true) : Checked1 L (ancs L []) c := by
  simp only [ordOK, Bool.and_eq_true] at h
  obtain ⟨⟨_, h2⟩, h3⟩ := h
  obtain ⟨g1, g2, g3, g4⟩ := pairsOK_sound h3
  refine ⟨g1, fun i => ⟨g2 i, fun hi => ?_⟩, g3, g4⟩
  have := List.all_eq_true.1 h2 i (by simpa using hi)
  obtain ⟨x, hx, hb⟩ := List.any_eq_true.1 this
  have := Nat.eq_of_beq_eq_true hb
  subst this
  exact hx
theorem ord_go {P : Program} {N : Nat} {L : List Oper} {f : Fr} {os : List Own} {fs : List Fact} {K : Next1} (c : List Nat) (hok : ordOK L c = true) (hdst : dstsOK N L = true)
    (k : VCops P true L (pickOps L c) f os fs K) : OrdK P N L f os fs K := by
  refine ⟨fun G Q hQ l hord a w hk hw => ?_⟩
  have hc := ordOK_sound hok
  refine sim (f0 := f) hc hdst hQ _ (fun _ => False) (vd := []) (c' := c) (val := fun _ => undef) (vf := f) (os := os) (fs := fs) ?_ (fun i => by simpa using (hord.all i).symm) hord.nodup (fun _ _ h => h) (fun pre i post hp j hj => .inr (hord.before pre i post hp j hj))
  exact ⟨rfl, fun _ h => h.elim, fun _ h => h.elim, hk.defers, hk.size, fun t v ht => hk.holds t v (by
    rcases ht with ⟨_, _, h, _⟩ | h
    · exact h.elim
    · exact h.1), fun t v ht => .inr ⟨ht, fun j o hj => by simp at hj⟩, fun k o hk => by simp at hk, hw, k⟩
end Go.Proofs.YtjebljkoiaojaaaGreat
namespace Go.Proofs.YtjebljkoiaojaaaGreat
def isum (g : Nat → Int) : Nat → Int
  | 0 => 0
  | k + 1 => isum g k + g k
theorem isum_congr {g g' : Nat → Int} : ∀ {n : Nat}, (∀ k, k < n → g k = g' k) → isum g n = isum g' n
  | 0, _ => rfl
  | n + 1, h => by simp only [isum]; rw [isum_congr (n := n) fun k hk => h k (by omega), h n (by omega)]
theorem isum_zero {g : Nat → Int} : ∀ {n : Nat}, (∀ k, k < n → g k = 0) → isum g n = 0
  | 0, _ => rfl
  | n + 1, h => by simp only [isum]; rw [isum_zero (n := n) fun k hk => h k (by omega), h n (by omega)]; rfl
theorem isum_lin (a b : Int) (f g : Nat → Int) : ∀ n, isum (fun k => a * f k + b * g k) n = a * isum f n + b * isum g n
  | 0 => by simp [isum]
  | n + 1 => by simp only [isum]; rw [isum_lin a b f g n]; grind
theorem isum_add (f g : Nat → Int) (n : Nat) : isum (fun k => f k + g k) n = isum f n + isum g n := by
  have := isum_lin 1 1 f g n; simpa using this
theorem isum_mul (a : Int) (f : Nat → Int) (n : Nat) : isum (fun k => a * f k) n = a * isum f n := by
  have := isum_lin a 0 f f n; simpa using this
theorem isum_mul_right (a : Int) (f : Nat → Int) (n : Nat) : isum (fun k => f k * a) n = isum f n * a := by
  rw [Int.mul_comm, ← isum_mul]; exact isum_congr fun k _ => Int.mul_comm _ _
theorem isum_one {g : Nat → Int} {n r : Nat} (hr : r < n) (h : ∀ k, k < n → k ≠ r → g k = 0) : isum g n = g r := by
  induction n with
  | zero => omega
  | succ n ih =>
    simp only [isum]
    by_cases hn : r = n
    · subst hn
      rw [isum_zero fun k hk => h k (by omega) (by omega)]; omega
    · rw [ih (by omega) fun k hk => h k (by omega), h n (by omega) (by omega)]; omega
theorem isum_two {g : Nat → Int} {n r : Nat} (hr : r + 1 < n) (h : ∀ k, k < n → k ≠ r → k ≠ r + 1 → g k = 0) : isum g n = g r + g (r + 1) := by
  induction n with
  | zero => omega
  | succ n ih =>
    simp only [isum]
    by_cases hn : r + 1 = n
    · subst hn
      rw [isum_one (r := r) (by omega) fun k hk hkr => h k (by omega) hkr (by omega)]
    · rw [ih (by omega) fun k hk => h k (by omega), h n (by omega) (by omega) (by omega)]; omega
theorem isum_front (g : Nat → Int) : ∀ n, isum g (n + 1) = g 0 + isum (fun k => g (k + 1)) n
  | 0 => by simp [isum]
  | n + 1 => by rw [isum, isum_front g n, isum]; omega
theorem isum_swap (f : Nat → Nat → Int) (m : Nat) : ∀ n, isum (fun i => isum (fun j => f i j) m) n = isum (fun j => isum (fun i => f i j) n) m
  | 0 => by simp only [isum]; exact (isum_zero fun _ _ => rfl).symm
  | n + 1 => by simp only [isum]; rw [isum_swap f m n, ← isum_add]
def sg (j : Nat) : Int := if j % 2 = 1 then -1 else 1
theorem sg_zero : sg 0 = 1 := rfl
theorem sg_succ (j : Nat) : sg (j + 1) = - sg j := by
  unfold sg
  by_cases h : j % 2 = 1
  · rw [if_pos h, if_neg (by omega)]; rfl
  · rw [if_neg h, if_pos (by omega)]
theorem sg_add (i j : Nat) : sg (i + j) = sg i * sg j := by
  induction j with
  | zero => simp [sg]
  | succ j ih => rw [← Nat.add_assoc, sg_succ, ih, sg_succ]; grind
theorem sg_sq (j : Nat) : sg j * sg j = 1 := by
  unfold sg; split <;> rfl
abbrev Mx := Nat → Nat → Int
def sk (i k : Nat) : Nat := if k < i then k else k + 1
def cut (A : Mx) (i j : Nat) : Mx := fun x y => A (sk i x) (sk j y)
def det : Nat → Mx → Int
  | 0, _ => 1
  | n + 1, A => isum (fun i => sg i * (A i 0 * det n (cut A i 0))) (n + 1)
def rw' (A : Mx) (r : Nat) (u : Nat → Int) : Mx := fun i j => if i = r then u j else A i j
def tp (A : Mx) : Mx := fun i j => A j i
def one : Mx := fun i j => if i = j then 1 else 0
def mm (n : Nat) (A B : Mx) : Mx := fun i j => isum (fun k => A i k * B k j) n
theorem sk_ne (i k : Nat) : sk i k ≠ i := by unfold sk; split <;> omega
theorem sk_lt {i k n : Nat} (h : k < n) : sk i k < n + 1 := by unfold sk; split <;> omega
theorem sk_zero (k : Nat) : sk 0 k = k + 1 := rfl
theorem sk_inj {i a b : Nat} (h : sk i a = sk i b) : a = b := by unfold sk at h; split at h <;> split at h <;> omega
theorem sk_sk {i k : Nat} (h : i ≤ k) (x : Nat) : sk i (sk k x) = sk (k + 1) (sk i x) := by
  unfold sk
  by_cases h1 : x < i
  · rw [if_pos (show x < k by omega), if_pos h1, if_pos (show x < k + 1 by omega)]
  · by_cases h2 : x < k
    · rw [if_pos h2, if_neg h1, if_pos (show x + 1 < k + 1 by omega)]
    · rw [if_neg h2, if_neg h1, if_neg (show ¬ x + 1 < i by omega), if_neg (show ¬ x + 1 < k + 1 by omega)]
def pk (i r : Nat) : Nat := if r < i then r else r - 1
theorem sk_pk {i r : Nat} (h : r ≠ i) : sk i (pk i r) = r := by
  unfold sk pk
  by_cases h1 : r < i
  · rw [if_pos h1, if_pos h1]
  · rw [if_neg h1, if_neg (by omega)]; omega
theorem pk_lt {i r n : Nat} (hr : r < n + 1) (hi : i < n + 1) (h : r ≠ i) : pk i r < n := by unfold pk; split <;> omega
theorem sk_eq_iff {i r x : Nat} (h : r ≠ i) : sk i x = r ↔ x = pk i r :=
  ⟨fun e => sk_inj (e.trans (sk_pk h).symm), fun e => e ▸ sk_pk h⟩
theorem det_congr : ∀ {n : Nat} {A B : Mx}, (∀ i j, i < n → j < n → A i j = B i j) → det n A = det n B
  | 0, _, _, _ => rfl
  | n + 1, A, B, h => by
    simp only [det]
    refine isum_congr fun i hi => ?_
    rw [h i 0 hi (by omega), det_congr (n := n) (A := cut A i 0) (B := cut B i 0) fun x y hx hy => h _ _ (sk_lt hx) (sk_lt hy)]
theorem cut_rw_same (A : Mx) (r j : Nat) (u : Nat → Int) : cut (rw' A r u) r j = cut A r j := by
  funext x y; simp only [cut, rw', if_neg (sk_ne r x)]
theorem cut_rw {A : Mx} {i r j : Nat} (h : r ≠ i) (u : Nat → Int) : cut (rw' A r u) i j = rw' (cut A i j) (pk i r) (fun y => u (sk j y)) := by
  funext x y
  simp only [cut, rw']
  by_cases hx : x = pk i r
  · rw [if_pos hx, if_pos ((sk_eq_iff h).2 hx)]
  · rw [if_neg hx, if_neg fun e => hx ((sk_eq_iff h).1 e)]
theorem det_row_lin : ∀ {n : Nat} (A : Mx) {r : Nat}, r < n → ∀ (a b : Int) (u v : Nat → Int),
    det n (rw' A r (fun j => a * u j + b * v j)) = a * det n (rw' A r u) + b * det n (rw' A r v)
  | 0, _, _, h, _, _, _, _ => by omega
  | n + 1, A, r, hr, a, b, u, v => by
    simp only [det]
    rw [← isum_lin]
    refine isum_congr fun i hi => ?_
    by_cases h : i = r
    · subst h
      rw [cut_rw_same, cut_rw_same, cut_rw_same]
      simp only [rw', if_true]
      grind
    · have h' : r ≠ i := fun e => h e.symm
      rw [cut_rw h', cut_rw h', cut_rw h', det_row_lin (cut A i 0) (pk_lt hr hi h') a b]
      simp only [rw', if_neg h]
      grind
theorem det_row_alt : ∀ {n : Nat} {A : Mx} {r : Nat}, r + 1 < n → (∀ j, j < n → A r j = A (r + 1) j) → det n A = 0
  | 0, _, _, h, _ => by omega
  | n + 1, A, r, hr, he => by
    simp only [det]
    rw [isum_two (r := r) hr]
    · have e : det n (cut A (r + 1) 0) = det n (cut A r 0) := det_congr fun x y hx hy => by
        simp only [cut]
        by_cases h : x = r
        · subst h
          rw [show sk (x + 1) x = x from if_pos (by omega), show sk x x = x + 1 from if_neg (by omega)]
          exact he _ (sk_lt hy)
        · have : sk (r + 1) x = sk r x := by unfold sk; split <;> split <;> omega
          rw [this]
      rw [e, sg_succ, he 0 (by omega)]
      grind
    · intro i hi h1 h2
      have hp : pk i (r + 1) = pk i r + 1 := by unfold pk; split <;> split <;> omega
      have : det n (cut A i 0) = 0 := det_row_alt (r := pk i r) (by have := pk_lt hr hi (fun e => h2 e.symm); omega) fun j hj => by
        simp only [cut]
        rw [← hp, sk_pk (fun e => h2 e.symm), sk_pk (fun e => h1 e.symm)]
        exact he _ (sk_lt hj)
      rw [this]; simp
def cw (A : Mx) (c : Nat) (u : Nat → Int) : Mx := fun i j => if j = c then u i else A i j
theorem cut_cw {A : Mx} {i c : Nat} (u : Nat → Int) : cut (cw A (c + 1) u) i 0 = cw (cut A i 0) c (fun x => u (sk i x)) := by
  funext x y
  unfold cut cw
  rw [sk_zero]
  by_cases hx : y = c
  · rw [if_pos hx, if_pos (by omega)]
  · rw [if_neg hx, if_neg (by omega)]; rfl
theorem det_col_lin : ∀ {n : Nat} (A : Mx) {c : Nat}, c < n → ∀ (a b : Int) (u v : Nat → Int),
    det n (cw A c (fun j => a * u j + b * v j)) = a * det n (cw A c u) + b * det n (cw A c v)
  | 0, _, _, h, _, _, _, _ => by omega
  | n + 1, A, 0, hr, a, b, u, v => by
    simp only [det]
    rw [← isum_lin]
    refine isum_congr fun i hi => ?_
    have e : ∀ w, cut (cw A 0 w) i 0 = cut A i 0 := fun w => by funext x y; unfold cut cw; rw [sk_zero, if_neg (by omega)]
    rw [e, e, e]
    simp only [cw, if_true]
    grind
  | n + 1, A, c + 1, hr, a, b, u, v => by
    simp only [det]
    rw [← isum_lin]
    refine isum_congr fun i hi => ?_
    rw [cut_cw, cut_cw, cut_cw, det_col_lin (cut A i 0) (by omega) a b]
    have : ¬ 0 = c + 1 := by omega
    simp only [cw, if_neg this]
    grind
theorem dsum {F : Nat → Nat → Int} : ∀ {n : Nat}, (∀ i k, i ≤ k → k < n → F i k + F (k + 1) i = 0) → isum (fun i => isum (F i) n) (n + 1) = 0
  | 0, _ => by simp [isum]
  | n + 1, h => by
    have h1 := dsum (F := F) (n := n) fun i k hi hk => h i k hi (by omega)
    rw [isum]
    have e : isum (fun i => isum (F i) (n + 1)) (n + 1) = isum (fun i => isum (F i) n) (n + 1) + isum (fun i => F i n) (n + 1) := by
      rw [← isum_add]; exact isum_congr fun i _ => rfl
    rw [e, h1, Int.zero_add, ← isum_add]
    exact isum_zero fun i hi => h i n (by omega) (by omega)
theorem det_col_alt : ∀ {n : Nat} {A : Mx} {c : Nat}, c + 1 < n → (∀ i, i < n → A i c = A i (c + 1)) → det n A = 0
  | 0, _, _, h, _ => by omega
  | 1, _, _, h, _ => by omega
  | n + 2, A, 0, hr, he => by
    simp only [det]
    rw [isum_congr (g' := fun i => isum (fun k => sg i * A i 0 * (sg k * (A (sk i k) 1 * det n (cut (cut A i 0) k 0)))) (n + 1))]
    · refine dsum fun i k hi hk => ?_
      have e1 : sk i k = k + 1 := if_neg (by omega)
      have e2 : sk (k + 1) i = i := if_pos (by omega)
      have e3 : cut (cut A i 0) k 0 = cut (cut A (k + 1) 0) i 0 := by
        funext x y; simp only [cut]; rw [sk_sk hi]
      rw [e1, e2, e3, he i (by omega), he (k + 1) (by omega), sg_succ]
      grind
    · intro i hi
      rw [isum_mul]
      have : isum (fun k => sg k * (A (sk i k) 1 * det n (cut (cut A i 0) k 0))) (n + 1) = isum (fun k => sg k * (cut A i 0 k 0 * det n (cut (cut A i 0) k 0))) (n + 1) := rfl
      rw [this]
      grind
  | n + 2, A, c + 1, hr, he => by
    rw [det]
    refine isum_zero fun i hi => ?_
    rw [det_col_alt (n := n + 1) (A := cut A i 0) (c := c) (by omega) fun x hx => by simp only [cut, sk_zero]; exact he _ (sk_lt hx)]
    simp
structure Form (n : Nat) (D : Mx → Int) : Prop where
  cong : ∀ {A B : Mx}, (∀ i j, i < n → j < n → A i j = B i j) → D A = D B
  lin : ∀ (A : Mx) {r : Nat}, r < n → ∀ (a b : Int) (u v : Nat → Int), D (rw' A r (fun j => a * u j + b * v j)) = a * D (rw' A r u) + b * D (rw' A r v)
  alt : ∀ {A : Mx} {r : Nat}, r + 1 < n → (∀ j, j < n → A r j = A (r + 1) j) → D A = 0
theorem det_form (n : Nat) : Form n (det n) := ⟨det_congr, fun A _ h => det_row_lin A h, det_row_alt⟩
theorem dett_form (n : Nat) : Form n (fun A => det n (tp A)) := by
  refine ⟨fun h => det_congr fun i j hi hj => h j i hj hi, fun A r hr a b u v => ?_, fun {A r} h he => det_col_alt (A := tp A) h fun i hi => he i hi⟩
  simp only [tr_cw]
  exact det_col_lin (tp A) hr a b u v
theorem rw_self (A : Mx) (r : Nat) : rw' A r (A r) = A := by
  funext i j; unfold rw'; split
  · rename_i h; rw [h]
  · rfl
theorem rw_comm (A : Mx) {r s : Nat} (h : r ≠ s) (u v : Nat → Int) : rw' (rw' A r u) s v = rw' (rw' A s v) r u := by
  funext i j; unfold rw'
  by_cases h1 : i = s
  · rw [if_pos h1, if_neg (by omega), if_pos h1]
  · rw [if_neg h1]
    by_cases h2 : i = r
    · rw [if_pos h2, if_pos h2]
    · rw [if_neg h2, if_neg h2, if_neg h1]
namespace Form
variable {n : Nat} {D : Mx → Int}
theorem add (h : Form n D) (A : Mx) {r : Nat} (hr : r < n) (u v : Nat → Int) : D (rw' A r (fun j => u j + v j)) = D (rw' A r u) + D (rw' A r v) := by
  have := h.lin A hr 1 1 u v; simpa using this
theorem smul (h : Form n D) (A : Mx) {r : Nat} (hr : r < n) (c : Int) (u : Nat → Int) : D (rw' A r (fun j => c * u j)) = c * D (rw' A r u) := by
  have := h.lin A hr c 0 u u; simpa using this
theorem zero (h : Form n D) {A : Mx} {r : Nat} (hr : r < n) (hz : ∀ j, j < n → A r j = 0) : D A = 0 := by
  have h1 := h.smul A hr 0 (A r)
  rw [Int.zero_mul] at h1
  rw [← h1]
  refine h.cong fun i j hi hj => ?_
  unfold rw'
  split
  · rename_i e; subst e; rw [hz j hj]; simp
  · rfl
theorem swap_of (h : Form n D) {A : Mx} {r s : Nat} (hr : r < n) (hs : s < n) (hne : r ≠ s) (alt : ∀ B : Mx, (∀ j, j < n → B r j = B s j) → D B = 0) :
    D (rw' (rw' A r (A s)) s (A r)) = - D A := by
  have z : ∀ w, D (rw' (rw' A r w) s w) = 0 := fun w => alt _ fun j _ => by
    simp [rw', hne]
  have key := z fun j => A r j + A s j
  rw [h.add _ hs, rw_comm A hne, h.add _ hr, rw_comm A hne, h.add _ hr] at key
  rw [rw_comm _ (Ne.symm hne), rw_comm _ (Ne.symm hne) , rw_comm _ (Ne.symm hne), rw_comm _ (Ne.symm hne)] at key
  have z1 := z (A r)
  have z2 := z (A s)
  have e : rw' (rw' A r (A r)) s (A s) = A := by rw [rw_self, rw_self]
  have e1 : D (rw' (rw' A r fun j => A r j) s fun j => A r j) = 0 := z1
  have e2 : D (rw' (rw' A r fun j => A s j) s fun j => A s j) = 0 := z2
  have e3 : D (rw' (rw' A r fun j => A r j) s fun j => A s j) = D A := congrArg D e
  have e4 : D (rw' (rw' A r fun j => A s j) s fun j => A r j) = D (rw' (rw' A r (A s)) s (A r)) := rfl
  rw [e1, e2, e3, e4] at key
  omega
theorem alt2 (h : Form n D) : ∀ (d : Nat) {A : Mx} {r : Nat}, r + d + 1 < n → (∀ j, j < n → A r j = A (r + d + 1) j) → D A = 0
  | 0, A, r, hr, he => h.alt hr he
  | d + 1, A, r, hr, he => by
    have hs := h.swap_of (A := A) (r := r + d + 1) (s := r + d + 2) (by omega) (by omega) (by omega) fun B hB => h.alt (by omega) hB
    have : D (rw' (rw' A (r + d + 1) (A (r + d + 2))) (r + d + 2) (A (r + d + 1))) = 0 := h.alt2 d (r := r) (by omega) fun j hj => by
      have h1 : ¬ r = r + d + 2 := by omega
      have h2 : ¬ r = r + d + 1 := by omega
      have h3 : ¬ r + d + 1 = r + d + 2 := by omega
      simp only [rw', if_neg h1, if_neg h2, if_neg h3, if_true]
      exact he j hj
    omega
theorem eqRows (h : Form n D) {A : Mx} {r s : Nat} (hr : r < n) (hs : s < n) (hne : r ≠ s) (he : ∀ j, j < n → A r j = A s j) : D A = 0 := by
  rcases Nat.lt_or_gt_of_ne hne with hlt | hlt
  · obtain ⟨d, rfl⟩ : ∃ d, s = r + d + 1 := ⟨s - r - 1, by omega⟩
    exact h.alt2 d hs he
  · obtain ⟨d, rfl⟩ : ∃ d, r = s + d + 1 := ⟨r - s - 1, by omega⟩
    exact h.alt2 d hr fun j hj => (he j hj).symm
theorem swap (h : Form n D) {A : Mx} {r s : Nat} (hr : r < n) (hs : s < n) (hne : r ≠ s) : D (rw' (rw' A r (A s)) s (A r)) = - D A :=
  h.swap_of hr hs hne fun _ hB => h.eqRows hr hs hne hB
theorem addRow (h : Form n D) {A : Mx} {r s : Nat} (hr : r < n) (hs : s < n) (hne : r ≠ s) (c : Int) (v : Nat → Int) (hv : ∀ j, j < n → v j = A s j) (u : Nat → Int) : D (rw' A r (fun j => u j + c * v j)) = D (rw' A r u) := by
  have h1 := h.lin A hr 1 c u v
  have h2 : D (rw' A r v) = 0 := h.eqRows hr hs hne fun j hj => by
    unfold rw'; rw [if_pos rfl, if_neg (Ne.symm hne), hv j hj]
  simpa [h2] using h1
theorem sum (h : Form n D) (A : Mx) {r : Nat} (hr : r < n) (c : Nat → Int) (u : Nat → Nat → Int) : ∀ m, D (rw' A r (fun j => isum (fun k => c k * u k j) m)) = isum (fun k => c k * D (rw' A r (u k))) m
  | 0 => by
    simp only [isum]
    exact h.zero hr fun j _ => by unfold rw'; simp
  | m + 1 => by
    simp only [isum]
    have := h.lin A hr 1 (c m) (fun j => isum (fun k => c k * u k j) m) (u m)
    rw [h.sum A hr c u m] at this
    simpa using this
theorem addRows (h : Form n D) {A : Mx} {r : Nat} (hr : r < n) (c : Nat → Int) (s : Nat → Nat) (m : Nat) (hs : ∀ k, k < m → s k < n ∧ s k ≠ r) (u : Nat → Int) :
    D (rw' A r (fun j => u j + isum (fun k => c k * A (s k) j) m)) = D (rw' A r u) := by
  have h1 := h.add A hr u (fun j => isum (fun k => c k * A (s k) j) m)
  rw [h.sum A hr c (fun k => A (s k)) m] at h1
  rw [h1, isum_zero, Int.add_zero]
  intro k hk
  obtain ⟨k1, k2⟩ := hs k hk
  rw [h.eqRows (A := rw' A r (A (s k))) hr k1 (Ne.symm k2) fun j hj => by unfold rw'; rw [if_pos rfl, if_neg k2]]
  simp
end Form
def unitRow (f : Nat → Nat) : Mx := fun i j => if f i = j then 1 else 0
theorem pigeon : ∀ (k : Nat) (f : Nat → Nat), (∀ i, i ≤ k → f i < k) → ∃ i j, i < j ∧ j ≤ k ∧ f i = f j
  | 0, f, h => absurd (h 0 (Nat.le_refl _)) (by omega)
  | k + 1, f, h => by
    by_cases hx : ∃ i, i ≤ k ∧ f i = f (k + 1)
    · obtain ⟨i, h1, h2⟩ := hx
      exact ⟨i, k + 1, by omega, by omega, h2⟩
    · have hne : ∀ i, i ≤ k → f i ≠ f (k + 1) := fun i hi e => hx ⟨i, hi, e⟩
      have hl := h (k + 1) (Nat.le_refl _)
      obtain ⟨i, j, h1, h2, h3⟩ := pigeon k (fun i => pk (f (k + 1)) (f i)) fun i hi => by
        have := h i (by omega)
        exact pk_lt (n := k) (by omega) hl (hne i hi)
      refine ⟨i, j, h1, by omega, ?_⟩
      rw [← sk_pk (hne i (by omega)), ← sk_pk (hne j h2), h3]
namespace Form
variable {n : Nat} {D : Mx → Int}
theorem units (h : Form n D) (h0 : D one = 0) : ∀ (k : Nat), k ≤ n → ∀ f : Nat → Nat, (∀ i, i < n → f i < n) → (∀ i, k ≤ i → i < n → f i = i) → D (unitRow f) = 0
  | 0, _, f, _, hf => by
    rw [← h0]
    exact h.cong fun i j hi hj => by unfold unitRow one; rw [hf i (by omega) hi]
  | k + 1, hk, f, hb, hf => by
    by_cases hrep : ∃ i j, i < j ∧ j < n ∧ f i = f j
    · obtain ⟨i, j, h1, h2, h3⟩ := hrep
      exact h.eqRows (r := i) (s := j) (by omega) h2 (by omega) fun y _ => by unfold unitRow; rw [h3]
    · by_cases hx : ∃ i, i ≤ k ∧ f i = k
      · obtain ⟨i, h1, h2⟩ := hx
        by_cases hik : i = k
        · subst hik
          refine units h h0 i (by omega) f hb fun x hx hxn => ?_
          by_cases e : x = i
          · rw [e, h2]
          · exact hf x (by omega) hxn
        · have hsw := h.swap (A := unitRow f) (r := i) (s := k) (by omega) (by omega) hik
          have e : rw' (rw' (unitRow f) i (unitRow f k)) k (unitRow f i) = unitRow (fun x => if x = k then f i else if x = i then f k else f x) := by
            funext x y
            unfold rw' unitRow
            by_cases e1 : x = k
            · simp [e1]
            · by_cases e2 : x = i
              · simp [e2, hik]
              · simp [e1, e2]
          rw [e, units h h0 k (by omega)] at hsw
          · omega
          · intro x hx
            split
            · exact hb _ (by omega)
            · split
              · exact hb _ (by omega)
              · exact hb _ hx
          · intro x hx hxn
            by_cases e1 : x = k
            · rw [if_pos e1, h2, e1]
            · rw [if_neg e1, if_neg (by omega)]
              exact hf x (by omega) hxn
      · exfalso
        have hlow : ∀ i, i ≤ k → f i < k := fun i hi => by
          rcases Nat.lt_or_ge (f i) k with h1 | h1
          · exact h1
          · exfalso
            by_cases e : f i = k
            · exact hx ⟨i, hi, e⟩
            · exact hrep ⟨i, f i, by omega, hb i (by omega), (hf (f i) (by omega) (hb i (by omega))).symm⟩
        obtain ⟨i, j, h1, h2, h3⟩ := pigeon k f hlow
        exact hrep ⟨i, j, h1, by omega, h3⟩
theorem vanish (h : Form n D) (h0 : D one = 0) : ∀ (k : Nat), k ≤ n → ∀ (A : Mx) (f : Nat → Nat), (∀ i, i < n → f i < n) → (∀ i j, k ≤ i → i < n → j < n → A i j = unitRow f i j) → D A = 0
  | 0, _, A, f, hb, hA => by
    rw [← units h h0 n (Nat.le_refl _) f hb fun i h1 h2 => by omega]
    exact h.cong fun i j hi hj => hA i j (by omega) hi hj
  | k + 1, hk, A, f, hb, hA => by
    have e : D A = D (rw' A k (fun j => isum (fun c => A k c * one c j) n)) := h.cong fun i j hi hj => by
      unfold rw'
      split
      · rename_i e
        subst e
        show _ = isum _ n
        rw [isum_one (r := j) hj fun c _ hc => by simp [one, hc]]
        simp [one]
      · rfl
    rw [e, h.sum A (by omega) (fun c => A k c) one n]
    refine isum_zero fun c hc => ?_
    rw [vanish h h0 k (by omega) (rw' A k (one c)) (fun x => if x = k then c else f x) (fun i hi => by split; exact hc; exact hb i hi) fun i j h1 h2 h3 => ?_]
    · simp
    · unfold rw' unitRow
      by_cases hik : i = k
      · simp [hik, one]
      · simp only [if_neg hik]
        exact hA i j (by omega) h2 h3
end Form
theorem det_one : ∀ n, det n one = 1
  | 0 => rfl
  | n + 1 => by
    rw [det, isum_one (r := 0) (by omega) fun k _ hk => by simp [one, hk]]
    have : det n (cut one 0 0) = det n one := det_congr fun i j _ _ => by simp [cut, one, sk_zero]
    rw [this, det_one n]; rfl
theorem Form.eq {n : Nat} {D : Mx → Int} (h : Form n D) (A : Mx) : D A = det n A * D one := by
  have hE : Form n (fun A => D A - det n A * D one) := by
    refine ⟨fun hc => by rw [h.cong hc, det_congr hc], fun A r hr a b u v => ?_, fun hr he => by rw [h.alt hr he, det_row_alt hr he]; simp⟩
    rw [h.lin A hr, det_row_lin A hr]
    grind
  have := hE.vanish (by rw [det_one]; omega) n (Nat.le_refl _) A (fun i => i) (fun i hi => hi) fun i j h1 h2 => by omega
  omega
theorem tr_one : tp one = one := by
  funext i j; unfold tp one
  by_cases h : i = j
  · subst h; rfl
  · rw [if_neg h, if_neg (Ne.symm h)]
theorem det_tr (n : Nat) (A : Mx) : det n (tp A) = det n A := by
  have := (dett_form n).eq A
  simp only [tr_one, det_one, Int.mul_one] at this
  exact this
theorem mul_rw (n : Nat) (A B : Mx) (r : Nat) (u : Nat → Int) : mm n (rw' A r u) B = rw' (mm n A B) r (fun j => isum (fun k => u k * B k j) n) := by
  funext i j
  unfold mm rw'
  by_cases h : i = r
  · simp only [if_pos h]
  · simp only [if_neg h]
theorem det_mul (n : Nat) (A B : Mx) : det n (mm n A B) = det n A * det n B := by
  have h : Form n (fun A => det n (mm n A B)) := by
    refine ⟨fun hc => det_congr fun i j hi hj => isum_congr fun k hk => by rw [hc i k hi hk], fun A r hr a b u v => ?_, fun {A r} hr he => det_row_alt hr fun j hj => isum_congr fun k hk => by rw [he k hk]⟩
    simp only [mul_rw]
    rw [← det_row_lin _ hr]
    congr 2
    funext j
    rw [← isum_lin]
    exact isum_congr fun k _ => by grind
  have := h.eq A
  rw [this]
  congr 1
  refine det_congr fun i j hi hj => ?_
  unfold mm
  rw [isum_one (r := i) hi fun k _ hk => by simp [one, Ne.symm hk]]
  simp [one]
def mv (A : Mx) (j : Nat) : Mx := fun x y => A x (if y = 0 then j else sk j (y - 1))
theorem det_mv (n : Nat) : ∀ (j : Nat) (A : Mx), j < n → det n (mv A j) = sg j * det n A
  | 0, A, _ => by
    rw [sg_zero, Int.one_mul]
    refine det_congr fun x y _ _ => ?_
    unfold mv
    congr 1
    by_cases h : y = 0
    · rw [if_pos h, h]
    · rw [if_neg h, sk_zero]; omega
  | j + 1, A, hj => by
    have hsw := (dett_form n).swap (A := tp A) (r := j) (s := j + 1) (by omega) hj (by omega)
    simp only [tr_tr] at hsw
    have ih := det_mv n j (tp (rw' (rw' (tp A) j (tp A (j + 1))) (j + 1) (tp A j))) (by omega)
    rw [hsw] at ih
    rw [sg_succ, Int.neg_mul, ← Int.mul_neg, ← ih]
    refine det_congr fun x y _ _ => ?_
    unfold mv tp rw'
    by_cases h : y = 0
    · simp [h]
    · simp only [if_neg h]
      by_cases h1 : y - 1 < j
      · have e1 : sk j (y - 1) = y - 1 := if_pos h1
        have e2 : sk (j + 1) (y - 1) = y - 1 := if_pos (by omega)
        rw [e1, e2, if_neg (by omega), if_neg (by omega)]
      · by_cases h2 : y - 1 = j
        · have e1 : sk j (y - 1) = j + 1 := by unfold sk; rw [if_neg h1]; omega
          have e2 : sk (j + 1) (y - 1) = j := by unfold sk; rw [if_pos (by omega)]; omega
          rw [e1, e2, if_pos rfl]
        · have e1 : sk j (y - 1) = y := by unfold sk; rw [if_neg h1]; omega
          have e2 : sk (j + 1) (y - 1) = y := by unfold sk; rw [if_neg (by omega)]; omega
          rw [e1, e2, if_neg (by omega), if_neg (by omega)]
theorem det_col {n : Nat} (A : Mx) {j : Nat} (hj : j < n + 1) : det (n + 1) A = isum (fun i => sg (i + j) * (A i j * det n (cut A i j))) (n + 1) := by
  have h1 := det_mv (n + 1) j A hj
  have h2 : det (n + 1) (mv A j) = isum (fun i => sg i * (A i j * det n (cut A i j))) (n + 1) := by
    rw [det]
    refine isum_congr fun i _ => ?_
    have : cut (mv A j) i 0 = cut A i j := by funext x y; simp [cut, mv, sk_zero]
    rw [this]; simp [mv]
  rw [h2] at h1
  have h3 : det (n + 1) A = sg j * (sg j * det (n + 1) A) := by rw [← Int.mul_assoc, sg_sq, Int.one_mul]
  rw [h3, ← h1, ← isum_mul]
  refine isum_congr fun i _ => ?_
  rw [sg_add]; grind
theorem cut_tr (A : Mx) (i j : Nat) : cut (tp A) i j = tp (cut A j i) := rfl
theorem det_row {n : Nat} (A : Mx) {i : Nat} (hi : i < n + 1) : det (n + 1) A = isum (fun j => sg (i + j) * (A i j * det n (cut A i j))) (n + 1) := by
  rw [← det_tr, det_col (tp A) hi]
  refine isum_congr fun j _ => ?_
  rw [cut_tr, det_tr, Nat.add_comm]; rfl
def adj (n : Nat) (A : Mx) : Mx := fun i j => sg (i + j) * det n (cut A j i)
theorem mul_adj {n : Nat} (A : Mx) {i j : Nat} (hi : i < n + 1) (hj : j < n + 1) : mm (n + 1) A (adj n A) i j = if i = j then det (n + 1) A else 0 := by
  have h := det_row (rw' A j (A i)) hj
  have e : mm (n + 1) A (adj n A) i j = det (n + 1) (rw' A j (A i)) := by
    rw [h]
    unfold mm adj
    refine isum_congr fun k _ => ?_
    rw [cut_rw_same, Nat.add_comm k j]
    simp only [rw', if_true]
    grind
  rw [e]
  by_cases hij : i = j
  · subst hij; rw [if_pos rfl, rw_self]
  · rw [if_neg hij]
    exact (det_form (n + 1)).eqRows hi hj hij fun y _ => by unfold rw'; rw [if_neg hij, if_pos rfl]
end Go.Proofs.YtjebljkoiaojaaaGreat
namespace Go.Proofs.YtjebljkoiaojaaaGreat
theorem pow_ne {d : Int} (hd : d ≠ 0) : ∀ n : Nat, d ^ n ≠ 0
  | 0 => by simp
  | n + 1 => by rw [Int.pow_succ]; exact Int.mul_ne_zero (pow_ne hd n) hd
theorem isum_split (g : Nat → Int) (m : Nat) : ∀ n, isum g (m + n) = isum g m + isum (fun k => g (m + k)) n
  | 0 => by simp [isum]
  | n + 1 => by rw [← Nat.add_assoc, isum, isum_split g m n, isum]; omega
theorem det_block : ∀ (a b : Nat) (A : Mx), (∀ i j, a ≤ i → i < a + b → j < a → A i j = 0) → det (a + b) A = det a A * det b (fun i j => A (a + i) (a + j))
  | 0, b, A, _ => by
    rw [Nat.zero_add, det, Int.one_mul]
    exact det_congr fun i j _ _ => by rw [Nat.zero_add, Nat.zero_add]
  | a + 1, b, A, h => by
    rw [show a + 1 + b = (a + b) + 1 by omega, det, det, ← isum_mul_right]
    rw [show a + b + 1 = (a + 1) + b by omega, isum_split, isum_zero (n := b) fun k hk => by rw [h (a + 1 + k) 0 (by omega) (by omega) (by omega)]; simp, Int.add_zero]
    refine isum_congr fun i hi => ?_
    rw [det_block a b (cut A i 0) fun x y h1 h2 h3 => by
      unfold cut
      have e : sk i x = x + 1 := if_neg (by omega)
      rw [e, sk_zero]
      exact h _ _ (by omega) (by omega) (by omega)]
    have e : det b (fun x y => cut A i 0 (a + x) (a + y)) = det b (fun x y => A (a + 1 + x) (a + 1 + y)) := det_congr fun x y _ _ => by
      unfold cut
      have e : sk i (a + x) = a + x + 1 := if_neg (by omega)
      rw [e, sk_zero]
      congr 1 <;> omega
    rw [e]; grind
theorem det_block' (a b : Nat) (A : Mx) (h : ∀ i j, i < a → a ≤ j → j < a + b → A i j = 0) : det (a + b) A = det a A * det b (fun i j => A (a + i) (a + j)) := by
  rw [← det_tr, det_block a b (tp A) fun i j h1 h2 h3 => h j i h3 h1 h2]
  congr 1
  · exact det_tr a A
  · exact det_tr b (fun i j => A (a + i) (a + j))
open Go.RowKit
def sz (x : Int) (e : Nat) : Prop := x.natAbs < 18446744073709551616 ^ e
theorem sz.len {x : Int} {e : Nat} (h : sz x e) : (lims x.natAbs).length ≤ e := lims_length_le h
theorem sz.mono {x : Int} {e e' : Nat} (h : sz x e) (he : e ≤ e') : sz x e' := Nat.lt_of_lt_of_le h (Nat.pow_le_pow_right (by decide) he)
theorem sz.mul {x y : Int} {a b : Nat} (h : sz x a) (h' : sz y b) : sz (x * y) (a + b) := by
  unfold sz at *
  rw [Int.natAbs_mul, Nat.pow_add]
  exact Nat.mul_lt_mul'' h h'
theorem sz.neg {x : Int} {a : Nat} (h : sz x a) : sz (-x) a := by unfold sz at *; rwa [Int.natAbs_neg]
theorem sz_jv {x : Bool × List Nat} {k : Nat} (h : Lim x.2) (hl : x.2.length ≤ k) : sz (jv x) k := by
  unfold sz jv
  rw [iv_abs]
  exact Nat.lt_of_lt_of_le (nv_lt h) (Nat.pow_le_pow_right (by decide) hl)
theorem sz_zero (e : Nat) : sz 0 e := Nat.pow_pos (by decide)
theorem isum_le {g : Nat → Int} {e : Nat} : ∀ {n : Nat}, (∀ k, k < n → sz (g k) e) → (isum g n).natAbs ≤ n * 18446744073709551616 ^ e
  | 0, _ => by simp [isum]
  | n + 1, h => by
    have h1 := isum_le (n := n) fun k hk => h k (by omega)
    have h2 := h n (by omega)
    unfold sz at h2
    simp only [isum]
    have := Int.natAbs_add_le (isum g n) (g n)
    rw [Nat.add_mul, Nat.one_mul]
    omega
theorem isum_sz {g : Nat → Int} {e n : Nat} (h : ∀ k, k < n → sz (g k) e) (hn : n < 18446744073709551616) : sz (isum g n) (e + 1) := by
  have h1 := isum_le h
  unfold sz
  rw [Nat.pow_succ, Nat.mul_comm]
  exact Nat.lt_of_le_of_lt h1 (Nat.mul_lt_mul_of_pos_right hn (Nat.pow_pos (by decide)))
theorem ww_get (m : List Row) (i : Nat) : (ww m).getD i [] = vv (m.getD i []) := by
  unfold ww
  by_cases h : i < m.length
  · simp [List.getD_eq_getElem?_getD, h]
  · simp [List.getD_eq_getElem?_getD, h, vv]
theorem ww_len (m : List Row) : (ww m).length = m.length := by unfold ww; simp
theorem sg_sz {x : Int} {e : Nat} (j : Nat) (h : sz x e) : sz (sg j * x) e := by
  unfold sg
  split
  · rw [Int.neg_one_mul]; exact h.neg
  · rwa [Int.one_mul]
theorem Seals.box0 {os : List Own} {fs : List Fact} {p : Value} {size : Nat} {e : Nat → Dat} {d : Dat} (h : e 0 = d) : Seals (own1 p size 1 e :: os) fs (own1 p size 1 (fun _ => d) :: os) fs :=
  Seals.own_cong (os := own1 p size 1 e :: os) 0 (fun _ => d) rfl rfl fun i hi => by
    have : i = 0 := by omega
    subst this; exact h
theorem rMulZ (v w : Value) (x : Bool × List Nat) (y : Int) (e : Nat) (hx : Lim x.2) (lx : x.2.length ≤ 137438953472) (hy : sz y e) (he : e ≤ 137438953472) :
    Meets Tryz.prog 41 [v, w] [(v, J x), (w, zd y)] (fun r os fs => os = [] ∧ fs = [(r, zd (jv x * y))]) := by
  have h := rZMul_meets v w x.1 (decide (y < 0)) x.2 (lims y.natAbs) hx (Lim_lims _) lx (Nat.le_trans hy.len he)
  rw [iv_zd] at h
  exact h
theorem rAddZ (v w : Value) (x y : Int) (e : Nat) (hx : sz x e) (hy : sz y e) (he : e ≤ 137438953472) :
    Meets Tryz.prog 36 [v, w] [(v, zd x), (w, zd y)] (fun r os fs => os = [] ∧ fs = [(r, zd (x + y))]) := by
  have h := rZAdd_meets v w (decide (x < 0)) (decide (y < 0)) (lims x.natAbs) (lims y.natAbs) (Lim_lims _) (Lim_lims _) (Nat.le_trans hx.len he) (Nat.le_trans hy.len he)
  rw [iv_zd, iv_zd] at h
  exact h
open Go.RowKit
theorem rSubZ (v w : Value) (x y : Int) (e : Nat) (hx : sz x e) (hy : sz y e) (he : e ≤ 137438953472) :
    Meets Tryz.prog 39 [v, w] [(v, zd x), (w, zd y)] (fun r os fs => os = [] ∧ fs = [(r, zd (x - y))]) := by
  have h := rZSub_meets v w (decide (x < 0)) (decide (y < 0)) (lims x.natAbs) (lims y.natAbs) (Lim_lims _) (Lim_lims _) (Nat.le_trans hx.len he) (Nat.le_trans hy.len he)
  rw [iv_zd, iv_zd] at h
  exact h
theorem sz_sub {x y : Int} {e : Nat} (h : sz x e) (h' : sz y e) : sz (x - y) (e + 1) := by
  unfold sz at *
  rw [Nat.pow_succ]
  have := Int.natAbs_sub_le x y
  omega
theorem Fit_cn {l : List Int} {e : Nat} (h : ∀ x, x ∈ l → sz x e) : Fit e (l.map cn) := fun p hp => by
  obtain ⟨x, hx, rfl⟩ := List.mem_map.1 hp
  exact ⟨Lim_lims _, (h x hx).len⟩
theorem Seals.box1 {os : List Own} {fs : List Fact} {o : Own} {p : Value} {size : Nat} {e : Nat → Dat} {d : Dat} (h : e 0 = d) : Seals (o :: own1 p size 1 e :: os) fs (o :: own1 p size 1 (fun _ => d) :: os) fs :=
  Seals.own_cong (os := o :: own1 p size 1 e :: os) 1 (fun _ => d) rfl rfl fun i hi => by
    have : i = 0 := by omega
    subst this; exact h
theorem map_cn_get {l : List Int} {k : Nat} (h : k < l.length) : (l.map cn).getD k z0 = cn (l.getD k 0) := by
  simp [List.getD_eq_getElem?_getD, h]
open Go.RowKit
theorem Fit.mono {k k' : Nat} {r : Row} (h : Fit k r) (hk : k ≤ k') : Fit k' r := fun x hx => ⟨(h x hx).1, Nat.le_trans (h x hx).2 hk⟩
open Go.RowKit
open Go.RowKit
instance {α β : Type} (a : List (List α)) (b : List (List β)) : Decidable (fitsProd a b) := inferInstanceAs (Decidable (_ ∧ _))
open Go.RowKit
open Go.RowKit
theorem AppendK.pre {P : Program} {ts : List TypeId} {ty : TypeId} {a b : Value} {os os' : List Own} {fs fs' : List Fact} {K : Cont} (hs : Seals os fs os' fs') (h : AppendK P ts ty a b os' fs' K) : AppendK P ts ty a b os fs K :=
  ⟨fun G w hw => h.out G w (hs G w hw)⟩
instance (p q : List Int) : Decidable (bare p q) := inferInstanceAs (Decidable (_ ∨ _))
open Go.RowKit
open Go.RowKit
open Go.RowKit
theorem OwnVal.congr {S : Nat → Prop} {B : Nat} {w : World} {v : Value} {size n : Nat} {e e' : Nat → Dat} (h : OwnVal S B w v size n e) (he : ∀ j, j < n → e' j = e j) (hz : 0 < size) : OwnVal S B w v size n e' := by
  have row : ∀ {r n' cap}, n' ≤ n → OwnRow S B w r size n' cap e → OwnRow S B w r size n' cap e' := fun hn ⟨h1, h2, h3, cur, t, h4, h5, h6⟩ =>
    ⟨h1, h2, h3, cur, t, h4, h5, fun i hi => by rw [he i (by omega)]; exact h6 i hi⟩
  rcases h with h | ⟨r, cap, hv, h⟩ | ⟨r, hv, hn, h⟩ | ⟨_, h, _⟩
  · exact .inl h
  · exact .inr (.inl ⟨r, cap, hv, row (Nat.le_refl _) h⟩)
  · exact .inr (.inr (.inl ⟨r, hv, hn, row (by omega) h⟩))
  · omega
theorem Seals.join {size n : Nat} {x : Value} {e : Nat → Dat} {F F' : Own} {os : List Own} {fs : List Fact} (hm : F'.m = F.m + 1) (hs : F'.size = F.size) (hs2 : F.size = size)
    (hv : ∀ i, i < F.m → F'.v i = F.v i ∧ F'.n i = F.n i ∧ ∀ j, j < F.n i → F'.e i j = F.e i j) (hx : F'.v F.m = x ∧ F'.n F.m = n ∧ ∀ j, j < n → F'.e F.m j = e j) (hz : 0 < size := by exact Nat.zero_lt_succ _) :
    Seals (own1 x size n e :: F :: os) fs (F' :: os) fs := by
  intro G w hw
  have has : ∀ b, F'.has b ↔ (own1 x size n e).has b ∨ F.has b := by
    intro b
    constructor
    · rintro ⟨i, hi, hb⟩
      by_cases hif : i < F.m
      · exact .inr ⟨i, hif, by rw [← (hv i hif).1]; exact hb⟩
      · have : i = F.m := by omega
        subst this
        exact .inl ⟨0, Nat.zero_lt_one, by rw [hx.1] at hb; exact hb⟩
    · rintro (⟨i, hi, hb⟩ | ⟨i, hi, hb⟩)
      · exact ⟨F.m, by omega, by rw [hx.1]; exact hb⟩
      · exact ⟨i, by omega, by rw [(hv i hi).1]; exact hb⟩
  have own : ∀ b, owned (F' :: os) b ↔ owned (own1 x size n e :: F :: os) b := fun b => by simp only [owned, has b, or_assoc]
  have good : ∀ b, Good G.A (own1 x size n e :: F :: os) w b → Good G.A (F' :: os) w b := fun b ⟨g1, g2, g3⟩ => ⟨g1, g2, fun h => g3 ((own b).1 h)⟩
  have agree : Agree (Good G.A (own1 x size n e :: F :: os) w) w w := fun _ _ => rfl
  obtain ⟨a1, a2, a3, a4, a5⟩ := hw.apart
  refine ⟨hw.low, hw.size, hw.below, ⟨fun i j b hi hj h1 h2 => ?_, fun b hb ho => ?_, a5⟩, fun o ho i hi => ?_, hw.facts.mono agree good⟩
  · by_cases hif : i < F.m
    · rw [(hv i hif).1] at h1
      by_cases hjf : j < F.m
      · rw [(hv j hjf).1] at h2
        exact a3 i j b hif hjf h1 h2
      · have : j = F.m := by omega
        subst this
        rw [hx.1] at h2
        exact absurd (show owned (F :: os) b from .inl ⟨i, hif, h1⟩) (a2 b ⟨0, Nat.zero_lt_one, h2⟩)
    · have : i = F.m := by omega
      subst this
      rw [hx.1] at h1
      by_cases hjf : j < F.m
      · rw [(hv j hjf).1] at h2
        exact absurd (show owned (F :: os) b from .inl ⟨j, hjf, h2⟩) (a2 b ⟨0, Nat.zero_lt_one, h1⟩)
      · omega
  · rcases (has b).1 hb with h | h
    · exact a2 b h (.inr ho)
    · exact a4 b h ho
  · rcases List.mem_cons.1 ho with rfl | ho
    · by_cases hif : i < F.m
      · obtain ⟨q1, q2, q3⟩ := hv i hif
        have := (hw.own F (by simp) i hif).mono agree good (fun _ _ => rfl)
        rw [q1, q2, hs]
        exact this.congr q3 (by omega)
      · have : i = F.m := by omega
        subst this
        have := (hw.own (own1 x size n e) (by simp) 0 Nat.zero_lt_one).mono agree good (fun _ _ => rfl)
        rw [hx.1, hx.2.1, hs, hs2]
        exact OwnVal.congr this hx.2.2 (by omega)
    · exact (hw.own o (by simp [ho]) i hi).mono agree good (fun _ _ => rfl)
theorem good_sub {A : Nat → Prop} {os : List Own} {w : World} {b pos : Nat} : Good A os w b → Good A (dropOwn os pos) w b := fun ⟨h1, h2, h3⟩ => ⟨h1, h2, fun hb => h3 (by
  obtain ⟨x, hx, hxb⟩ := owned_mem.1 hb
  obtain ⟨i, _, hi⟩ := dropOwn_mem hx
  exact owned_mem.2 ⟨x, nthOwn_mem hi, hxb⟩)⟩
theorem Seals.fam {F : Own} {os : List Own} {fs : List Fact} (pos : Nat) (h : nthOwn os pos = some F) (hs : ∀ i, i < F.m → isSl (F.v i)) :
    Seals os fs (dropOwn os pos) (((List.range F.m).map fun i => (F.v i, .sl F.size (F.n i) (F.e i))) ++ fs) := by
  intro G w hw
  have hd := hw.drop pos
  refine ⟨hd.low, hd.size, hd.below, hd.apart, hd.own, fun x hx => ?_⟩
  rcases List.mem_append.1 hx with hx | hx
  · obtain ⟨i, hi, rfl⟩ := List.mem_map.1 hx
    rw [List.mem_range] at hi
    obtain ⟨a, m, c, hv⟩ := hs i hi
    simp only
    rcases hw.own _ (nthOwn_mem h) i hi with ⟨h1, h2⟩ | ⟨r, cap, h1, h2⟩ | ⟨r, h1, _⟩ | ⟨_, _, _, _, _, _, ⟨r, _, _, h1, _⟩ | ⟨r, _, _, _, _, _, _, h1, _⟩⟩
    rotate_right
    · rw [hv] at h1; simp at h1
    rotate_right
    · rw [hv] at h1; simp at h1
    · rw [h1, h2]
      exact Knw.nil (os := dropOwn os pos) (fs := fs) F.size (F.e i) G w hd
    · have hhas : F.has r := ⟨i, hi, by rw [h1]; rfl⟩
      rw [h1]
      obtain ⟨b1, b2, b3, cur, t, b4, b5, b6⟩ := h2
      refine ⟨[.slice (some ⟨r, 0, none⟩) (F.n i) cap], ⟨_, cap, rfl, b2, b3, fun hn => by simp at hn, fun b hb _ => by simp at hb; subst hb; rfl, fun j hj => ?_⟩, rfl⟩
      obtain ⟨cs, c1, c2, c3⟩ := b6 j hj
      refine ⟨⟨r, 0, none⟩, cs, rfl, c1.mono (fun _ _ => rfl) (fun b hb => good_sub hb), c2, fun q hq => ⟨good_drop hw h hhas, ?_⟩⟩
      rw [← c3 q (by omega)]; simp [World.cell?, b4]
    · rw [hv] at h1; simp at h1
  · exact hd.facts x hx
theorem Seals.over {os : List Own} {fs : List Fact} (pos : Nat) {v : Value} {n : Nat} {vs : Nat → Value} {D : Nat → Dat} (h : nthOwn os pos = some (own1 v 1 n fun i => .one (vs i))) (hs : isSl v)
    (hk : ∀ i, i < n → (vs i, D i) ∈ fs ∧ (D i).flat = true) : Seals os fs (dropOwn os pos) ((v, .sl 1 n D) :: fs) := by
  intro G w hw
  have hd := hw.drop pos
  refine hd.put ?_
  obtain ⟨a, m, c, rfl⟩ := hs
  rcases hw.own _ (nthOwn_mem h) 0 Nat.zero_lt_one with ⟨h1, h2⟩ | ⟨r, cap, h1, h2⟩ | ⟨r, h1, _⟩ | ⟨_, _, _, _, _, _, ⟨r, _, _, h1, _⟩ | ⟨r, _, _, _, _, _, _, h1, _⟩⟩
  rotate_right
  · simp [own1] at h1
  rotate_right
  · simp [own1] at h1
  · simp only [own1] at h1 h2
    rw [h1, h2]
    exact Knw.nil (os := dropOwn os pos) (fs := fs) 1 D G w hd
  · have hhas : (own1 (.slice a m c) 1 n fun i => .one (vs i)).has r := ⟨0, Nat.zero_lt_one, by rw [h1]; rfl⟩
    simp only [own1] at h1 h2
    rw [h1]
    obtain ⟨b1, b2, b3, cur, t, b4, b5, b6⟩ := h2
    refine ⟨[.slice (some ⟨r, 0, none⟩) n cap], ⟨_, cap, rfl, b2, b3, fun hn => by simp at hn, fun b hb _ => by simp at hb; subst hb; rfl, fun i hi => ?_⟩, rfl⟩
    obtain ⟨cs, ⟨rfl, c1⟩, c2, c3⟩ := b6 i hi
    obtain ⟨hm, hf⟩ := hk i hi
    obtain ⟨cs', k1, k2⟩ := hd.facts _ hm
    obtain ⟨u, rfl, _, k3⟩ := RdC.single hf k1
    rw [k3] at k2
    simp only at k2
    refine ⟨⟨r, 0, none⟩, [vs i], rfl, by rw [k2]; exact k1, rfl, fun q hq => ⟨good_drop hw h hhas, ?_⟩⟩
    rw [← c3 q (by simpa using hq)]; simp [World.cell?, b4]
  · simp [own1] at h1
theorem Seals.rows {F : Own} {v : Value} {os : List Own} {fs : List Fact} (hv : isSl v) (hs : ∀ i, i < F.m → isSl (F.v i)) :
    Seals (F :: own1 v 1 F.m (fun i => .one (F.v i)) :: os) fs os ((v, .sl 1 F.m fun i => .sl F.size (F.n i) (F.e i)) :: fs) := by
  refine Seals.trans (Seals.fam (os := F :: own1 v 1 F.m (fun i => .one (F.v i)) :: os) 0 rfl hs) (Seals.trans (Seals.over (os := own1 v 1 F.m (fun i => .one (F.v i)) :: os) (D := fun i => .sl F.size (F.n i) (F.e i)) 0 rfl hv fun i hi => ⟨?_, rfl⟩) (Seals.sub fun x hx => ?_))
  · exact List.mem_append.2 (.inl (List.mem_map.2 ⟨i, List.mem_range.2 hi, rfl⟩))
  · rcases List.mem_cons.1 hx with rfl | hx
    · exact .head _
    · exact .tail _ (List.mem_append.2 (.inr hx))
open Go.RowKit
theorem load_own_one {P : Program} {t : TypeId} {os : List Own} {fs : List Fact} {K : Cont} [ht : TOne P t] (pos i : Nat) {o : Own} (h : nthOwn os pos = some o) (hi : i < o.m) (j : Nat) {k : Nat} (hk : k = j * o.size)
    (hj : j < o.n i) {u : Value} (hd : o.e i j = .one u) (k' : K u os fs) : LoadK P t (eptr (o.v i) k) os fs K := by
  refine ⟨fun G w hw => ?_⟩
  have hov := hw.own o (nthOwn_mem h) i hi
  obtain ⟨r, cap, hr⟩ := hov.row (by omega)
  obtain ⟨cs, g1, g2, g3⟩ := hr.row.cellsAt hj
  have g1' : RdC (Good G.A os w) w (.one u) cs := hd ▸ g1
  have hp : pack (.one u) cs = u := by simp [pack, g1'.1]
  rw [hr.ptr k]
  refine ⟨u, fs, fun w' hb => val_run ?_, k', hw⟩
  have := loadAt_run (P := P) (t := t) (w := w') (r := r) (o := k) (d := .one u) ht g1' fun x hx => by
    rw [hk]; exact g3 w' (hb.block r (hov.blk hr.blk).2) x hx
  rw [hp] at this
  exact this
theorem load_one_elem {P : Program} {t : TypeId} {v : Value} {size n : Nat} {e : Nat → Dat} {os : List Own} {fs : List Fact} {K : Cont} [ht : TOne P t] (pos : Nat) (h : nthOwn os pos = some (own1 v size n e)) (j : Nat)
    (hj : j < n) {u : Value} (hd : e j = .one u) (k' : K u os fs) : LoadK P t (eptr v (j * size)) os fs K :=
  load_own_one (o := own1 v size n e) pos 0 h Nat.zero_lt_one j rfl hj hd k'
theorem box_fact {P : Program} {t : TypeId} {v : Value} {d : Dat} {os : List Own} {fs : List Fact} {K : Cont} (hr : Reads os fs v d) (k : ∀ p, K p os ((p, .ptr d) :: fs)) : BoxK P t v os fs K :=
  ⟨Grw.sealed (box_rule hr (K := fun u os' fs' => ∃ os'' fs'', Seals os' fs' os'' fs'' ∧ K u os'' fs'') fun p hp => ⟨_, _, Seals.box (os := own1 p d.cells 1 (fun _ => d) :: os) 0 rfl hp rfl, k p⟩).out⟩
theorem Seals.re {os : List Own} {fs : List Fact} (pos : Nat) {o o' : Own} (h : nthOwn os pos = some o) (s : Nat → Nat) (hs : o'.size = o.size)
    (hv : ∀ i, i < o'.m → s i < o.m ∧ o'.v i = o.v (s i) ∧ o'.n i = o.n (s i) ∧ ∀ j, j < o.n (s i) → o'.e i j = o.e (s i) j) (hinj : ∀ i j, i < o'.m → j < o'.m → s i = s j → i = j) (hz : 0 < o.size := by exact Nat.zero_lt_succ _) :
    Seals os fs (setOwn os pos o') fs := by
  intro G w hw
  have key : ∀ {os : List Own}, Apart os → o ∈ os → ∀ i j b, i < o.m → j < o.m → vblk (o.v i) = some b → vblk (o.v j) = some b → i = j := by
    intro os
    induction os with
    | nil => intro _ hm; simp at hm
    | cons z r ih =>
      intro hA hm
      rcases List.mem_cons.1 hm with rfl | hm
      · exact hA.1
      · exact ih hA.2.2 hm
  refine hw.step h rfl rfl rfl (Nat.le_refl _) (fun _ _ _ => rfl) (fun b ⟨i, hi, hb⟩ => .inl ⟨s i, (hv i hi).1, by rw [← (hv i hi).2.1]; exact hb⟩) (fun i j b hi hj h1 h2 => ?_) fun mono i hi => ?_
  · rw [(hv i hi).2.1] at h1
    rw [(hv j hj).2.1] at h2
    exact hinj i j hi hj (key hw.apart (nthOwn_mem h) _ _ b (hv i hi).1 (hv j hj).1 h1 h2)
  · obtain ⟨q1, q2, q3, q4⟩ := hv i hi
    rw [q2, q3, hs]
    have row : ∀ {r cap n}, n ≤ o.n (s i) → OwnRow (Good G.A os w) G.B w r o.size n cap (o.e (s i)) → OwnRow (Good G.A (setOwn os pos o') w) G.B w r o.size n cap (o'.e i) := fun hn ⟨b1, b2, b3, cur, t, b4, b5, b6⟩ =>
      ⟨b1, b2, b3, cur, t, b4, b5, fun x hx => let ⟨cs, c1, c2⟩ := b6 x hx; ⟨cs, by rw [q4 x (by omega)]; exact mono _ _ c1, c2⟩⟩
    rcases hw.own _ (nthOwn_mem h) (s i) q1 with h1 | ⟨r, cap, h1, h2⟩ | ⟨r, h1, h2, h3⟩ | ⟨_, h1, _⟩
    · exact .inl h1
    · exact .inr (.inl ⟨r, cap, h1, row (Nat.le_refl _) h2⟩)
    · exact .inr (.inr (.inl ⟨r, h1, h2, row (by omega) h3⟩))
    · omega
theorem store_fam {P : Program} {ty : TypeId} {x : Value} {d : Dat} {os : List Own} {fs : List Fact} {K : Cont} (pos i : Nat) {o : Own} (o' : Own) (h : nthOwn os pos = some o) (hi : i < o.m) (j : Nat)
    (hj : j < o.n i) (hd : d.cells = o.size) (ht : (P.info? ty).map (·.size) = some o.size) (hx : Reads os fs x d) (hm : o'.m = o.m) (hs : o'.size = o.size) (hv : ∀ a, a < o.m → o'.v a = o.v a ∧ o'.n a = o.n a ∧ ∀ b, b < o.n a → o'.e a b = if a = i ∧ b = j then d else o.e a b)
    (k' : K undef (setOwn os pos o') fs) : StoreK P ty (eptr (o.v i) (j * o.size)) x os fs K := by
  have h1 := store_own (P := P) (ty := ty) (x := x) (d := d) (K := fun u os' fs' => ∃ os'' fs'', Seals os' fs' os'' fs'' ∧ K u os'' fs'') pos i h hi j rfl hj hd ht hx
  refine ⟨Dyn.sealed (h1 ⟨_, _, ?_, k'⟩).out⟩
  have h2 := Seals.re (hz := hd ▸ Dat.cells_pos _) (os := setOwn os pos { o with e := fun y => if y = i then upd (o.e i) j d else o.e y }) (fs := fs) (o' := o') pos (nth_set h) (fun a => a) hs (fun a ha => ?_) fun _ _ _ _ e => e
  · rw [set_set] at h2; exact h2
  · rw [hm] at ha
    obtain ⟨g1, g2, g3⟩ := hv a ha
    refine ⟨ha, g1, g2, fun b hb => ?_⟩
    rw [g3 b hb]
    simp only
    by_cases hai : a = i
    · subst hai
      simp only [if_true, upd]
      by_cases hbj : b = j
      · simp [hbj]
      · simp [hbj]
    · simp [hai]
theorem CallK.pre {P : Program} {d : Bool} {fv : Value} {args : List Value} {os os' : List Own} {fs fs' : List Fact} {K : Cont} (hs : Seals os fs os' fs') (h : CallK P d fv args os' fs' K) : CallK P d fv args os fs K :=
  ⟨fun G w hw => h.out G w (hs G w hw), fun hd G w hw => h.grw hd G w (hs G w hw)⟩
theorem zMulZ (v w : Value) (x y : Int) (a b : Nat) (hx : sz x a) (hy : sz y b) (ha : a ≤ 137438953472) (hb : b ≤ 137438953472) :
    Meets Tryz.prog 98 [v, w] [(v, zd x), (w, zd y)] (fun r os fs => os = [] ∧ fs = [(r, zd (x * y))]) := by
  have h := zmul_meets v w (decide (x < 0)) (decide (y < 0)) (lims x.natAbs) (lims y.natAbs) (Lim_lims _) (Lim_lims _) (Nat.le_trans hx.len ha) (Nat.le_trans hy.len hb)
  rw [iv_zd, iv_zd] at h
  exact h
theorem zMulJ (v w : Value) (x y : Bool × List Nat) (hx : Lim x.2) (lx : x.2.length ≤ 137438953472) (hy : Lim y.2) (ly : y.2.length ≤ 137438953472) :
    Meets Tryz.prog 98 [v, w] [(v, J x), (w, J y)] (fun r os fs => os = [] ∧ fs = [(r, zd (jv x * jv y))]) := zmul_meets v w x.1 y.1 x.2 y.2 hx hy lx ly
theorem zAddZ (v w : Value) (x y : Int) (a b : Nat) (hx : sz x a) (hy : sz y b) (ha : a ≤ 137438953472) (hb : b ≤ 137438953472) :
    Meets Tryz.prog 97 [v, w] [(v, zd x), (w, zd y)] (fun r os fs => os = [] ∧ fs = [(r, zd (x + y))]) := by
  have h := zadd_meets v w (decide (x < 0)) (decide (y < 0)) (lims x.natAbs) (lims y.natAbs) (Lim_lims _) (Lim_lims _) (Nat.le_trans hx.len ha) (Nat.le_trans hy.len hb)
  rw [iv_zd, iv_zd] at h
  exact h
theorem zSubZ (v w : Value) (x y : Int) (a b : Nat) (hx : sz x a) (hy : sz y b) (ha : a ≤ 137438953472) (hb : b ≤ 137438953472) :
    Meets Tryz.prog 96 [v, w] [(v, zd x), (w, zd y)] (fun r os fs => os = [] ∧ fs = [(r, zd (x - y))]) := by
  have h := zsub_meets v w (decide (x < 0)) (decide (y < 0)) (lims x.natAbs) (lims y.natAbs) (Lim_lims _) (Lim_lims _) (Nat.le_trans hx.len ha) (Nat.le_trans hy.len hb)
  rw [iv_zd, iv_zd] at h
  exact h
theorem zNormZ (v : Value) (x : Int) (e : Nat) (hx : sz x e) (he : e ≤ 137438953472) :
    Meets Tryz.prog 75 [v] [(v, zd x)] (fun r os fs => os = [] ∧ fs = [(r, zd x)]) := by
  have h := znorm_meets v (decide (x < 0)) (lims x.natAbs) (Lim_lims _) (Nat.le_trans hx.len (by omega))
  rw [iv_zd] at h
  exact h
theorem zNegZ (v : Value) (x : Int) (e : Nat) (hx : sz x e) (he : e ≤ 137438953472) :
    Meets Tryz.prog 68 [v] [(v, zd x)] (fun r os fs => os = [] ∧ fs = [(r, zd (-x))]) := by
  have h := zneg_meets v (decide (x < 0)) (lims x.natAbs) (Lim_lims _) (Nat.le_trans hx.len he)
  rw [iv_zd] at h
  exact h
theorem zSignZ (v : Value) (x : Int) (e : Nat) (hx : sz x e) (he : e ≤ 137438953472) :
    Meets Tryz.prog 51 [v] [(v, zd x)] (fun r os fs => os = [] ∧ fs = [] ∧ r = .int .i64 x.sign) := by
  have h := zsign_meets v (decide (x < 0)) (lims x.natAbs) (Lim_lims _) (Nat.le_trans hx.len he)
  rw [iv_zd] at h
  exact h
theorem zDivModZ (v w : Value) (x y : Int) (a b : Nat) (hx : sz x a) (hy : sz y b) (ha : a ≤ 137438953472) (hb : b ≤ 137438953472) (h0 : y ≠ 0) :
    Meets Tryz.prog 94 [v, w] [(v, zd x), (w, zd y)] (fun r os fs => os = [] ∧ ∃ q m, r = .tuple #[q, m, .bool true] ∧ fs = [(q, zd (x / y)), (m, zd (x % y))]) := by
  have h := zdivmod_meets v w (decide (x < 0)) (decide (y < 0)) (lims x.natAbs) (lims y.natAbs) (Lim_lims _) (Lim_lims _) (Nat.le_trans hx.len ha) (Nat.le_trans hy.len hb) (by rw [nv_lims]; omega)
  rw [iv_zd, iv_zd] at h
  exact h
theorem sz_div {x y : Int} {e : Nat} (h : sz x e) : sz (x / y) e := Nat.lt_of_le_of_lt (Int.natAbs_ediv_le_natAbs x y) h
open Go.RowKit
def famO (vs : Nat → Value) (R C : Nat) (x : Mx) : Own := ⟨R, vs, 2, fun _ => C, fun i k => zd (x i k)⟩
def matL (R C : Nat) (x : Mx) : List (List Int) := (List.range R).map fun i => (List.range C).map fun k => x i k
def outer (v : Value) (R : Nat) (vs : Nat → Value) : Own := own1 v 1 R fun i => .one (vs i)
theorem isSl.one {v : Value} (h : isSl v) : v.oneCell' = true := by obtain ⟨a, n, c, rfl⟩ := h; rfl
theorem Seals.none {os : List Own} {fs : List Fact} (F : Own) (h : F.m = 0) : Seals os fs (F :: os) fs := by
  intro G w hw
  have has : ∀ b, ¬ F.has b := fun b ⟨i, hi, _⟩ => by omega
  have own : ∀ b, owned (F :: os) b ↔ owned os b := fun b => by simp [owned, has b]
  have good : ∀ b, Good G.A os w b → Good G.A (F :: os) w b := fun b ⟨g1, g2, g3⟩ => ⟨g1, g2, fun h => g3 ((own b).1 h)⟩
  have agree : Agree (Good G.A os w) w w := fun _ _ => rfl
  refine ⟨hw.low, hw.size, hw.below, ⟨fun i j b hi _ _ _ => by omega, fun b hb => absurd hb (has b), hw.apart⟩, fun o ho i hi => ?_, hw.facts.mono agree good⟩
  rcases List.mem_cons.1 ho with rfl | ho
  · omega
  · exact (hw.own o ho i hi).mono agree good (fun _ _ => rfl)
theorem matL_len (R C : Nat) (x : Mx) : (matL R C x).length = R := by unfold matL; simp
theorem matL_row {R C i : Nat} (x : Mx) (h : i < R) : (matL R C x).getD i [] = (List.range C).map fun k => x i k := by
  unfold matL; simp [List.getD_eq_getElem?_getD, h]
theorem matL_at {R C i k : Nat} (x : Mx) (h : i < R) (h' : k < C) : ((matL R C x).getD i []).getD k 0 = x i k := by
  rw [matL_row x h]; simp [List.getD_eq_getElem?_getD, h']
theorem range_cn {C k : Nat} (g : Nat → Int) (h : k < C) : (((List.range C).map fun k => g k).map cn).getD k z0 = cn (g k) := by
  simp [List.getD_eq_getElem?_getD, h]
theorem Seals.made {v : Value} {vs : Nat → Value} {R C : Nat} {x : Mx} {os : List Own} {fs : List Fact} (hv : isSl v) (hs : ∀ i, i < R → isSl (vs i)) :
    Seals (famO vs R C x :: outer v R vs :: os) fs os ((v, wd (matL R C x)) :: fs) := by
  let F' : Own := ⟨R, vs, 2, fun _ => C, fun i k => J ((((List.range C).map fun k => x i k).map cn).getD k z0)⟩
  have h1 : Seals (famO vs R C x :: outer v R vs :: os) fs (F' :: outer v R vs :: os) fs :=
    Seals.re (os := famO vs R C x :: outer v R vs :: os) 0 rfl (fun i => i) rfl (fun i hi => ⟨hi, rfl, rfl, fun k hk => by
      show J _ = zd _
      have hk' : k < C := hk
      rw [range_cn (fun k => x i k) hk']; rfl⟩) (fun _ _ _ _ e => e)
  refine Seals.trans h1 (Seals.trans (Seals.rows (F := F') hv hs) (Seals.cons (Knw.cast (Knw.sl_cong (e' := fun i => V (((matL R C x).map (·.map cn)).getD i [])) (Knw.fact (List.Mem.head _)) fun i hi => ?_) ?_) (Seals.sub fun F hF => .tail _ hF)))
  · have e : ((matL R C x).map (·.map cn)).getD i [] = ((List.range C).map fun k => x i k).map cn := by
      have hi' : i < R := hi
      unfold matL; simp [List.getD_eq_getElem?_getD, hi']
    rw [e]
    unfold V LD
    rw [List.length_map, List.length_map, List.length_range]
  · unfold wd W LD
    rw [List.length_map, matL_len]
end Go.Proofs.YtjebljkoiaojaaaGreat
namespace Go.Proofs.YtjebljkoiaojaaaGreat
def sub' (A : Mx) (rl cl : List Nat) : Mx := fun i j => A (rl.getD i 0) (cl.getD j 0)
def wt (A : Mx) (s x : Nat) (rl cl : List Nat) : Nat → Int := fun r => sg (r + 1) * det s (cut (sub' A (x :: rl) (0 :: cl)) (r + 1) 0)
theorem bord (A : Mx) (s x k : Nat) (rl cl : List Nat) :
    det (s + 1) (sub' A (x :: rl) (k :: cl)) = A x k * det s (sub' A rl cl) + isum (fun r => wt A s x rl cl r * A (rl.getD r 0) k) s := by
  rw [det, isum_front]
  congr 1
  · simp [sg, sub']; rfl
  · refine isum_congr fun r _ => ?_
    have : cut (sub' A (x :: rl) (k :: cl)) (r + 1) 0 = cut (sub' A (x :: rl) (0 :: cl)) (r + 1) 0 := by
      funext a b; simp [cut, sub', sk_zero]
    rw [this]
    simp only [wt, sub', List.getD_cons_succ, List.getD_cons_zero]
    grind
theorem bord_zero (A : Mx) {s x k j : Nat} (rl cl : List Nat) (hj : j < s) (h : cl.getD j 0 = k) : det (s + 1) (sub' A (x :: rl) (k :: cl)) = 0 := by
  rw [← det_tr]
  refine (det_form (s + 1)).eqRows (r := 0) (s := j + 1) (by omega) (by omega) (by omega) fun i _ => ?_
  simp only [tp, sub', List.getD_cons_succ, List.getD_cons_zero, h]
theorem det_row0 {n : Nat} (A : Mx) (h : ∀ j, 0 < j → j < n + 1 → A 0 j = 0) : det (n + 1) A = A 0 0 * det n (cut A 0 0) := by
  rw [det_row A (i := 0) (by omega), isum_front, isum_zero fun j hj => by rw [h (j + 1) (by omega) (by omega)]; simp]
  simp [sg]
theorem det_row01 {n : Nat} (A : Mx) (h : ∀ j, 1 < j → j < n + 2 → A 0 j = 0) : det (n + 2) A = A 0 0 * det (n + 1) (cut A 0 0) - A 0 1 * det (n + 1) (cut A 0 1) := by
  rw [det_row A (i := 0) (by omega), isum_front, isum_front, isum_zero fun j hj => by rw [h (j + 1 + 1) (by omega) (by omega)]; simp]
  simp [sg]; omega
theorem sylv (A : Mx) (s x y c k : Nat) (rl cl : List Nat) (hd : det s (sub' A rl cl) ≠ 0) :
    det s (sub' A rl cl) * det (s + 2) (sub' A (y :: x :: rl) (k :: c :: cl)) =
      det (s + 1) (sub' A (x :: rl) (c :: cl)) * det (s + 1) (sub' A (y :: rl) (k :: cl)) - det (s + 1) (sub' A (y :: rl) (c :: cl)) * det (s + 1) (sub' A (x :: rl) (k :: cl)) := by
  let d := det s (sub' A rl cl)
  let cs := k :: c :: cl
  let n0 := sub' A (y :: x :: rl) cs
  let My : Nat → Int := fun j => det (s + 1) (sub' A (y :: rl) (cs.getD j 0 :: cl))
  let Mx' : Nat → Int := fun j => det (s + 1) (sub' A (x :: rl) (cs.getD j 0 :: cl))
  have hF := det_form (s + 2)
  have e1 : det (s + 2) (rw' n0 1 Mx') = d * det (s + 2) n0 := by
    have h1 := hF.smul n0 (r := 1) (by omega) d (n0 1)
    rw [rw_self] at h1
    rw [← h1]
    have h2 := hF.addRows (A := n0) (r := 1) (by omega) (wt A s x rl cl) (fun r => r + 2) s (fun r hr => ⟨by omega, by omega⟩) (fun j => d * n0 1 j)
    rw [← h2]
    refine det_congr fun i j _ _ => ?_
    unfold rw'
    split
    · show Mx' j = _
      simp only [Mx']
      rw [bord]
      simp only [n0, sub', List.getD_cons_succ, List.getD_cons_zero, d, cs]
      rw [Int.mul_comm]
    · rfl
  have e2 : det (s + 2) (rw' (rw' n0 1 Mx') 0 My) = d * (d * det (s + 2) n0) := by
    rw [← e1]
    have h1 := hF.smul (rw' n0 1 Mx') (r := 0) (by omega) d (n0 0)
    have e0 : rw' (rw' n0 1 Mx') 0 (n0 0) = rw' n0 1 Mx' := by
      funext i j; unfold rw'; split
      · rename_i h; rw [h, if_neg (by omega)]
      · rfl
    rw [e0] at h1
    rw [← h1]
    have h2 := hF.addRows (A := rw' n0 1 Mx') (r := 0) (by omega) (wt A s y rl cl) (fun r => r + 2) s (fun r hr => ⟨by omega, by omega⟩) (fun j => d * n0 0 j)
    rw [← h2]
    refine det_congr fun i j _ _ => ?_
    unfold rw'
    split
    · show My j = _
      simp only [My]
      rw [bord]
      have : ∀ r, ¬ r + 2 = 1 := fun r => by omega
      simp only [n0, sub', List.getD_cons_succ, List.getD_cons_zero, d, cs, if_neg (this _)]
      rw [Int.mul_comm]
    · rfl
  have z : ∀ w j, 1 < j → j < s + 2 → det (s + 1) (sub' A (w :: rl) (cs.getD j 0 :: cl)) = 0 := fun w j h1 h2 => by
    obtain ⟨j, rfl⟩ : ∃ j', j = j' + 2 := ⟨j - 2, by omega⟩
    exact bord_zero A rl cl (j := j) (by omega) (by simp [cs])
  have e3 : det (s + 2) (rw' (rw' n0 1 Mx') 0 My) = My 0 * (Mx' 1 * d) - My 1 * (Mx' 0 * d) := by
    rw [det_row01 _ fun j h1 h2 => by show (if 0 = 0 then My j else _) = 0; rw [if_pos rfl]; exact z y j h1 h2]
    have f0 : rw' (rw' n0 1 Mx') 0 My 0 0 = My 0 := if_pos rfl
    have f1 : rw' (rw' n0 1 Mx') 0 My 0 1 = My 1 := if_pos rfl
    rw [f0, f1]
    congr 2
    · rw [det_row0 _ fun j h1 h2 => ?_]
      · congr 1
      · simp only [cut, sk_zero, rw']
        exact z x (j + 1) (by omega) (by omega)
    · rw [det_row0 _ fun j h1 h2 => ?_]
      · congr 1
      · have e : sk 1 j = j + 1 := if_neg (by omega)
        simp only [cut, sk_zero, rw', e]
        exact z x (j + 1) (by omega) (by omega)
  rw [e2] at e3
  have e4 : d * (d * det (s + 2) n0) = d * (Mx' 1 * My 0 - My 1 * Mx' 0) := by rw [e3]; grind
  exact Int.eq_of_mul_eq_mul_left hd e4
def rev (n : Nat) (A : Mx) : Mx := fun i j => A (n - 1 - i) (n - 1 - j)
theorem det_rev (n : Nat) (A : Mx) : det n (rev n A) = det n A := by
  have hF : Form n (fun A => det n (rev n A)) := by
    refine ⟨fun hc => det_congr fun i j hi hj => hc _ _ (by omega) (by omega), fun A r hr a b u v => ?_, fun {A r} hr he => ?_⟩
    · have e : ∀ w, det n (rev n (rw' A r w)) = det n (rw' (rev n A) (n - 1 - r) (fun j => w (n - 1 - j))) := fun w => det_congr fun i j hi hj => by
        simp only [rev, rw']
        by_cases h : i = n - 1 - r
        · rw [if_pos h, if_pos (by omega)]
        · rw [if_neg h, if_neg (by omega)]
      rw [e, e, e]
      exact det_row_lin (rev n A) (r := n - 1 - r) (by omega) a b (fun j => u (n - 1 - j)) (fun j => v (n - 1 - j))
    · refine det_row_alt (r := n - 1 - (r + 1)) (by omega) fun j hj => ?_
      simp only [rev]
      rw [show n - 1 - (n - 1 - (r + 1)) = r + 1 by omega, show n - 1 - (n - 1 - (r + 1) + 1) = r by omega]
      exact (he _ (by omega)).symm
  have := hF.eq A
  rw [this]
  have e : det n (rev n one) = 1 := by
    rw [← det_one n]
    refine det_congr fun i j hi hj => ?_
    simp only [rev, one]
    by_cases h : i = j
    · rw [if_pos h, if_pos (by omega)]
    · rw [if_neg h, if_neg (by omega)]
  rw [e, Int.mul_one]
open Go.RowKit
def mx (m : List (List Int)) : Mx := fun i j => (m.getD i []).getD j 0
open Go.RowKit
open Go.RowKit
open Go.RowKit
theorem det_sz : ∀ (n : Nat) {x : Mx} {k : Nat}, n < 1048576 → (∀ i j, i < n → j < n → sz (x i j) k) → sz (det n x) ((k + 1) * n + 1)
  | 0, x, k, _, _ => by unfold det; exact Nat.lt_of_lt_of_le (show (1 : Int).natAbs < 18446744073709551616 ^ 1 by decide) (Nat.pow_le_pow_right (by decide) (by omega))
  | n + 1, x, k, hn, h => by
    unfold det
    refine (isum_sz (e := k + ((k + 1) * n + 1)) (fun i hi => sg_sz i (sz.mul (h i 0 hi (by omega)) (det_sz n (by omega) fun a b ha hb => h _ _ (sk_lt ha) (sk_lt hb)))) (by omega)).mono ?_
    rw [Nat.mul_add]; omega
open Go.RowKit
theorem Knw.vd_of {os : List Own} {fs : List Fact} {v : Value} {n : Nat} {g : Nat → Int} (h : Knw os fs v (.sl 2 n fun i => J ((((List.range n).map g).map cn).getD i z0))) : Knw os fs v (vd ((List.range n).map g)) :=
  h.cast (by unfold vd V LD; simp)
open Go.RowKit
theorem degTo_le (l : List Int) : ∀ (n : Nat) (k : Nat), k ≤ n → (∀ j, k ≤ j → j < n → l.getD j 0 = 0) → degTo l n = degTo l k
  | 0, k, h, _ => by have : k = 0 := by omega
                     subst this; rfl
  | n + 1, k, h, hz => by
    by_cases e : k = n + 1
    · rw [e]
    · rw [degTo, if_pos (hz n (by omega) (by omega))]
      exact degTo_le l n k (by omega) fun j h1 h2 => hz j h1 (by omega)
theorem pDegree_meets (v : Value) (p : Row) (hp : Fit 137438953472 p) :
    Meets Tryz.prog 99 [v] [(v, V p)] (fun r os fs => os = [] ∧ fs = [] ∧ r = .int .i64 (deg (vv p))) := by
  refine meets_of_vc Tryz.func99 (by kernel_rfl) rfl (by kernel_rfl) (Nat.le_of_ble_eq_true rfl) ?_
  refine len_fact qM fun _ => ?_
  refine loop_rule (X := Nat) (fun n => ([(0, v), (3, .int .i64 (n : Nat))], [], [(v, V p)])) (fun n => n ≤ p.length ∧ ∀ j, n ≤ j → j < p.length → (vv p).getD j 0 = 0) (fun n => n) rfl ?_ ?_
  · exact again p.length ⟨Nat.le_refl _, fun j h1 h2 => by omega⟩ trivial qF (Seals.sub qS)
  · rintro n ⟨h1, h2⟩
    refine cmp_split _ rfl (fun hn => ?_) (fun hn => ?_)
    · have hn' : n - 1 < p.length := by omega
      have hg := vv_get p (n - 1) hn'
      refine ar rfl qI ?_
      refine index_fact qM (n - 1) (by omega) hn' fun a1 => ?_
      refine load_fact (d := J (p.getD (n - 1) z0)) qM (load_J _) fun x1 => ?_
      refine call_fn (zsign_meets x1 (p.getD (n - 1) z0).1 (p.getD (n - 1) z0).2 (hp.get _).1 (hp.get _).2) (Seals.refl _ _) qS ?_
      rintro _ _ _ ⟨rfl, rfl, rfl⟩
      refine cmp_split _ rfl (fun hz => ?_) (fun hz => ?_)
      · refine ar rfl qI ?_
        refine again (n - 1) ⟨by omega, fun j h3 h4 => ?_⟩ (by simp only; omega) qF (Seals.sub qS)
        by_cases e : j = n - 1
        · rw [e, hg]; exact Int.sign_eq_zero_iff_zero.1 hz
        · exact h2 j (by omega) h4
      · refine ar rfl qI ?_
        refine fin ⟨rfl, rfl, ?_⟩ (Seals.nil _ _)
        have hd : degTo (vv p) p.length = degTo (vv p) n := degTo_le _ _ _ h1 h2
        have hne : (vv p).getD (n - 1) 0 ≠ 0 := by rw [hg]; exact fun e => hz (Int.sign_eq_zero_iff_zero.2 e)
        unfold deg
        rw [vv_len, hd]
        obtain ⟨n', rfl⟩ : ∃ n', n = n' + 1 := ⟨n - 1, by omega⟩
        rw [degTo, if_neg (by simpa using hne)]
        exact congrArg (Value.int .i64) (by omega)
    · have hn0 : n = 0 := by omega
      subst hn0
      refine ar rfl qI ?_
      refine fin ⟨rfl, rfl, ?_⟩ (Seals.nil _ _)
      unfold deg
      rw [vv_len, degTo_le _ _ _ h1 h2]; rfl
open Go.RowKit
open Go.RowKit
theorem draw_join {P : Program} {N id : Nat} {L : List Oper} {f : Fr} {os : List Own} {fs : List Fact} {K : Next1} {X : Type} (I : X → Fr × List Own × List Fact) (ok : X → Prop)
    (h : DrawK P N id L f os fs fun f os fs => AtK I ok f os fs fun _ => True) (k : ∀ x, ok x → K (I x).1 (I x).2.1 (I x).2.2) : DrawK P N id L f os fs K := by
  refine ⟨fun G Q hQ a w hk hw => ?_⟩
  let Q' : Post := fun e => match e with
    | .normal => fun f os fs => AtK I ok f os fs fun _ => True
    | e => Q e
  refine wp_mono (h.out G Q' rfl a w hk hw) ?_
  rintro e a' w' ⟨f', os', fs', hk', hw', hq⟩
  cases e with
  | normal =>
    obtain ⟨⟨x, hx, _, g1, g2⟩⟩ := hq
    exact ⟨_, _, _, hk'.sub g1, g2 G w' hw', by rw [hQ]; exact k x hx⟩
  | exit id => exact ⟨f', os', fs', hk', hw', hq⟩
  | goto l => exact ⟨f', os', fs', hk', hw', hq⟩
  | ret => exact ⟨f', os', fs', hk', hw', hq⟩
  | panic ch => exact ⟨f', os', fs', hk', hw', hq⟩
  | outgrown => exact ⟨f', os', fs', hk', hw', hq⟩
def famR (vs : Nat → Value) (m : List Row) : Own := ⟨m.length, vs, 2, fun i => (m.getD i []).length, fun i k => J ((m.getD i []).getD k z0)⟩
theorem take_getD {α : Type} {l : List α} {i j : Nat} (z : α) (h : j < i) : (l.take i).getD j z = l.getD j z := by
  simp [List.getD_eq_getElem?_getD, h]
theorem Seals.madeR {v : Value} {vs : Nat → Value} {m : List Row} {os : List Own} {fs : List Fact} (hv : isSl v) (hs : ∀ i, i < m.length → isSl (vs i)) :
    Seals (famR vs m :: outer v m.length vs :: os) fs os ((v, W m) :: fs) :=
  Seals.trans (Seals.rows (F := famR vs m) hv hs) (Seals.cons (Knw.cast (Knw.sl_cong (e' := fun i => V (m.getD i [])) (Knw.fact (List.Mem.head _)) fun _ _ => rfl) rfl) (Seals.sub fun _ hF => .tail _ hF))
theorem index_famR {kk : IntKind} {z : Int} {vs : Nat → Value} {m : List Row} {os : List Own} {fs : List Fact} {K : Cont} (pos i : Nat) (h : nthOwn os pos = some (famR vs m)) (hi : i < m.length) (hs : isSl (vs i)) (j : Nat) (hz : z = (j : Int)) (hj : j < (m.getD i []).length)
    (k : K (eptr (vs i) (j * 2)) os fs) : IndexAddrK Tryz.prog 22 (vs i) (.int kk z) os fs K :=
  index_own (o := famR vs m) pos i h hi (fun r => by obtain ⟨a, n, c, e⟩ := hs; show vs i ≠ _; rw [e]; simp) j hz hj k
theorem getD_set2 {m : List Row} {i a : Nat} {r : Row} (h : i < m.length) : (m.set i r).getD a [] = if a = i then r else m.getD a [] := by
  simp only [List.getD_eq_getElem?_getD, List.getElem?_set]
  by_cases e : i = a
  · subst e; simp [h]
  · simp [e, Ne.symm e]
theorem store_R {u : Value} {vs : Nat → Value} {m : List Row} {os : List Own} {fs : List Fact} {K : Cont} (pos i j : Nat) (h : nthOwn os pos = some (famR vs m)) (hi : i < m.length) (hj : j < (m.getD i []).length) (x : Bool × List Nat)
    (hu : Reads os fs u (J x)) (k : K undef (setOwn os pos (famR vs (m.set i ((m.getD i []).set j x)))) fs) :
    StoreK Tryz.prog 26 (eptr (vs i) (j * 2)) u os fs K :=
  store_fam (d := J x) pos i (famR vs (m.set i ((m.getD i []).set j x))) h hi j hj rfl (by kernel_rfl) hu (by simp [famR]) rfl (fun a ha => by
    have ha' : a < m.length := ha
    refine ⟨rfl, ?_, fun b hb => ?_⟩
    · show ((m.set i ((m.getD i []).set j x)).getD a []).length = (m.getD a []).length
      rw [getD_set2 hi]
      by_cases e : a = i
      · rw [if_pos e, List.length_set, e]
      · rw [if_neg e]
    · show J (((m.set i ((m.getD i []).set j x)).getD a []).getD b z0) = if a = i ∧ b = j then J x else J ((m.getD a []).getD b z0)
      rw [getD_set2 hi]
      by_cases e : a = i
      · rw [if_pos e, getD_setL hj]
        by_cases e2 : b = j
        · rw [if_pos e2, if_pos ⟨e, e2⟩]
        · rw [if_neg e2, if_neg (fun h => e2 h.2), e]
      · rw [if_neg e, if_neg (fun h => e h.1)]) k
open Go.RowKit
theorem get_cn (m : List (List Int)) (i : Nat) : ((m.map (·.map cn)).getD i []) = (m.getD i []).map cn := by
  by_cases h : i < m.length
  · simp [List.getD_eq_getElem?_getD, h]
  · simp [List.getD_eq_getElem?_getD, h]
theorem right_cn (m : List (List Int)) : right (m.map (·.map cn)) ↔ right m := by
  unfold right
  rw [List.length_map, get_cn, List.length_map]
  constructor
  · rintro ⟨h1, h2⟩
    exact ⟨h1, fun r hr => by have := h2 _ (List.mem_map.2 ⟨r, hr, rfl⟩); rwa [List.length_map] at this⟩
  · rintro ⟨h1, h2⟩
    refine ⟨h1, fun r hr => ?_⟩
    obtain ⟨r', hr', rfl⟩ := List.mem_map.1 hr
    rw [List.length_map]; exact h2 r' hr'
def szM (e : Nat) (m : List (List Int)) : Prop := ∀ r, r ∈ m → ∀ x, x ∈ r → sz x e
def szR (e : Nat) (l : List Int) : Prop := ∀ x, x ∈ l → sz x e
theorem szM.fits {e : Nat} {m : List (List Int)} (h : szM e m) : Fits e (m.map (·.map cn)) := fun r hr => by
  obtain ⟨r', hr', rfl⟩ := List.mem_map.1 hr
  exact Fit_cn fun x hx => h r' hr' x hx
theorem map_cn_inj {l m : List Int} : l.map cn = m.map cn ↔ l = m := ⟨fun h => by rw [← vv_cn l, h, vv_cn], fun h => by rw [h]⟩
theorem exactAllW (v w : Value) (x y : List Int) : Meets Tryz.prog 26 [v, w] [(v, vd x), (w, vd y)] (fun r os fs => os = [] ∧ fs = [] ∧ r = .bool (decide (x = y))) := by
  have h := exactAll_meets v w (x.map cn) (y.map cn)
  rw [decide_eq_decide.2 map_cn_inj] at h
  exact h
def IL (l : List Int) : Dat := .sl 1 l.length fun i => .one (.int .i64 (l.getD i 0))
theorem lit_IL {P : Program} {t e : TypeId} {os : List Own} {fs : List Fact} {K : Cont} [ht : TSl P t e 1] [he : TEl P e 1 8] {n : Nat} (l : List Int) {ps : List (Nat × Value)} (hps : ps = enumP 0 (l.map fun x => Value.int .i64 x)) (hn : n = l.length) (hl : l.length ≤ 1000) (k : ∀ v, K v os ((v, IL l) :: fs)) :
    BuildSliceK P t n ps os fs K := by
  have hr : ∀ l : List Int, ReadsAll os fs 1 (l.map fun x => Value.int .i64 x) (l.map fun x => Dat.one (.int .i64 x)) := fun l => by
    induction l with
    | nil => trivial
    | cons x l ih => exact ⟨Reads.one rfl, rfl, ih⟩
  have h1 := buildSlice_fact (P := P) (t := t) (os := os) (fs := fs) (K := fun u os' fs' => ∃ os'' fs'', Seals os' fs' os'' fs'' ∧ K u os'' fs'') (n := n) (l.map fun x => Value.int .i64 x) (l.map fun x => Dat.one (.int .i64 x)) hps (by rw [hn, List.length_map]) (by omega) (by decide) (hr l)
  refine ⟨Grw.sealed (h1 fun v => ⟨_, _, ?_, k v⟩).out⟩
  exact Seals.knw_cong hn fun i hi => by
    have hi' : i < l.length := by omega
    simp [List.getD_eq_getElem?_getD, hi']
end Go.Proofs.YtjebljkoiaojaaaGreat
namespace Go.Proofs.YtjebljkoiaojaaaGreat
open Go.RowKit
instance (x : Int) (e : Nat) : Decidable (sz x e) := inferInstanceAs (Decidable (_ < _))
open Go.RowKit
open Go.RowKit
def limR (r : Row) : Prop := ∀ x, x ∈ r → Lim x.2
def smallR (n c : Nat) (r : Row) : Prop := r.length ≤ n ∧ ∀ x, x ∈ r → x.2.length ≤ c
instance (n c : Nat) (r : Row) : Decidable (smallR n c r) := inferInstanceAs (Decidable (_ ∧ _))
theorem smallR.fit {n c : Nat} {r : Row} (h : smallR n c r) (hl : limR r) : Fit c r := fun x hx => ⟨hl x hx, h.2 x hx⟩
end Go.Proofs.YtjebljkoiaojaaaGreat
namespace Go.Proofs.YtjebljkoiaojaaaGreat
open Go.RowKit Go.ChangeShapes Go.WideShapes Go.ChangeAt Go.Deep
section
variable {H : Type} {enc : TypeId × Value → H} {w : World} {base : Nat} {spare : Nat → Bool} {held : Bool}
theorem rd_u64 {fuel : Nat} {cs : List Value} {x : DataW H × List MemPlace} (h : DataW.trod enc Tryz.prog w base spare held fuel 122 cs = some x) : ∃ n : Nat, n < 18446744073709551616 ∧ cs = [.int .u64 (n : Int)] := by
  obtain ⟨n, rfl, _, hw⟩ := DataW.trod_int Tryz.underlying122 h
  have : 0 ≤ n ∧ n < 18446744073709551616 := by
    simp [Lit.wf, IntKind.min, IntKind.max, IntKind.signed, IntKind.bits] at hw
    omega
  exact ⟨n.toNat, by omega, by rw [Int.toNat_of_nonneg this.1]⟩
theorem rd_slice {α : Type} (f : α → Dat) (z : α) (ok : α → Prop) {t e : TypeId} {size : Nat} (ht : Tryz.prog.underlying t = some (.slice e)) (hc : Tryz.prog.cellsOf e = size) (hs : 0 < size)
    (el : ∀ n cs x, cs.length = size → DataW.trod enc Tryz.prog w base spare held n e cs = some x → ∃ a, ok a ∧ RdC (fun b => b < w.heap.size) w (f a) cs)
    {fuel : Nat} {cs : List Value} {x : DataW H × List MemPlace} (h : DataW.trod enc Tryz.prog w base spare held fuel t cs = some x) :
    ∃ l : List α, (∀ a, a ∈ l → ok a) ∧ RdC (fun b => b < w.heap.size) w (LD size f z l) cs := by
  rcases open_slice ht h with ⟨rfl, _⟩ | ⟨a, len, cap, m, n, D, Pl, rfl, hb, hl, hm, hmm, _, hx⟩
  · exact ⟨[], (fun _ h => by simp at h), rd_nil _ _ _ _⟩
  · have hle : len ≤ m := by rw [hmm]; split <;> omega
    rw [hc] at hx
    have hspot : 0 < len → a.spot = none := fun h0 => by
      obtain ⟨cs', h1, h2⟩ := hx 0 (by omega)
      obtain ⟨_, hlen, hcell⟩ := World.cells?_some h1
      have h0 := hcell 0 hs
      rw [List.getElem?_eq_getElem (by omega)] at h0
      have := World.cell?_spot h0
      simpa [Addr.add] using this
    have hel : ∀ i, ∃ y : α, i < len → ok y ∧ ∃ cs', RdC (fun b => b < w.heap.size) w (f y) cs' ∧ cs'.length = size ∧ a.spot = none ∧ CellsAt (fun b => b < w.heap.size) w a.block (a.off + i * size) cs' := by
      intro i
      by_cases hi : i < len
      · obtain ⟨cs', h1, h2⟩ := hx i (by omega)
        obtain ⟨_, hlen, hcell⟩ := World.cells?_some h1
        obtain ⟨y, hy1, hy2⟩ := el n cs' _ hlen h2
        have hsp := hspot (by omega)
        refine ⟨y, fun _ => ⟨hy1, cs', hy2, hlen, hsp, fun j hj => ?_⟩⟩
        have h0 := hcell j (by omega)
        have ha : (a.add (i * size)).add j = ⟨a.block, a.off + i * size + j, none⟩ := by
          obtain ⟨b, o, s⟩ := a
          simp only at hsp
          subst hsp
          rw [add_none, add_none]
        rw [ha] at h0
        refine ⟨?_, h0⟩
        rw [List.getElem?_eq_getElem hj] at h0
        unfold World.cell? at h0
        simp only at h0
        split at h0
        · rename_i heq
          exact (Array.getElem?_eq_some_iff.1 heq).1
        · simp at h0
      · exact ⟨z, fun h => absurd h hi⟩
    have hch := fun i => Classical.choose_spec (hel i)
    let g : Nat → α := fun i => Classical.choose (hel i)
    have hg : ∀ i, i < len → ((List.range len).map g).getD i z = g i := fun i hi => by simp [List.getD_eq_getElem?_getD, hi]
    refine ⟨(List.range len).map g, fun y hy => ?_, ?_⟩
    · obtain ⟨i, hi, rfl⟩ := List.mem_map.1 hy
      exact (hch i (List.mem_range.1 hi)).1
    · unfold LD
      rw [List.length_map, List.length_range]
      refine ⟨some a, cap, rfl, hl, hm, fun h => by simp at h, fun b hb' hpos => ?_, fun i hi => ?_⟩
      · simp only [Option.some.injEq] at hb'
        subst hb'
        obtain ⟨_, _, _, _, hsp, _⟩ := hch 0 hpos
        exact hsp
      · obtain ⟨_, cs', q1, q2, _, q3⟩ := hch i hi
        refine ⟨a, cs', rfl, ?_, q2, q3⟩
        show RdC _ _ (f (((List.range len).map g).getD i z)) cs'
        rw [hg i hi]; exact q1
theorem rd_limbs {fuel : Nat} {cs : List Value} {x : DataW H × List MemPlace} (h : DataW.trod enc Tryz.prog w base spare held fuel 24 cs = some x) : ∃ l : List Nat, Lim l ∧ RdC (fun b => b < w.heap.size) w (U l) cs := by
  obtain ⟨l, h1, h2⟩ := rd_slice (size := 1) (fun n : Nat => .one (.int .u64 (n : Int))) 0 (fun n => n < 18446744073709551616) Tryz.underlying24 (by kernel_rfl) (by decide) (fun n cs x _ h => by
    obtain ⟨n, hn, rfl⟩ := rd_u64 h
    exact ⟨n, hn, rfl, rfl⟩) h
  exact ⟨l, h1, h2⟩
theorem rd_int2 {P : Program} {t tb tl : TypeId} {f0 f1 : Field} (ht : P.underlying t = some (.struct #[f0, f1])) (h0t : f0.type = tb) (h0o : f0.offset = 0) (h1t : f1.type = tl) (h1o : f1.offset = 1)
    (cb : P.cellsOf tb = 1) (cl : P.cellsOf tl = 1) (hb : P.underlying tb = some .bool) (el : ∀ (n : Nat) (cs : List Value) (x : DataW H × List MemPlace), DataW.trod enc P w base spare held n tl cs = some x → ∃ l : List Nat, Lim l ∧ RdC (fun b => b < w.heap.size) w (U l) cs)
    {fuel : Nat} {cs : List Value} {x : DataW H × List MemPlace} (hl : cs.length = 2) (h : DataW.trod enc P w base spare held fuel t cs = some x) : ∃ y : Bool × List Nat, Lim y.2 ∧ RdC (fun b => b < w.heap.size) w (J y) cs := by
  obtain ⟨y0, y1, n, _, hlen, h0, h1⟩ := trod_struct2 ht h
  rw [h0t, h0o, cb] at h0
  rw [h1t, h1o, cl] at h1
  match cs, hl with
  | [c0, c1], _ =>
    obtain ⟨s, hs, _⟩ := DataW.trod_bool hb h0
    obtain ⟨l, hl1, hl2⟩ := el _ _ _ h1
    have hc0 : c0 = .bool s := by simpa using hs
    subst hc0
    exact ⟨(s, l), hl1, [.bool s], [c1], rfl, ⟨rfl, rfl⟩, hl2⟩
theorem rd_int {fuel : Nat} {cs : List Value} {x : DataW H × List MemPlace} (hl : cs.length = 2) (h : DataW.trod enc Tryz.prog w base spare held fuel 26 cs = some x) : ∃ y : Bool × List Nat, Lim y.2 ∧ RdC (fun b => b < w.heap.size) w (J y) cs :=
  rd_int2 Tryz.underlying26 rfl rfl rfl rfl (tb := 4) (tl := 24) (by kernel_rfl) (by kernel_rfl) Tryz.underlying4 (fun _ _ _ h => rd_limbs h) hl h
theorem rd_poly {fuel : Nat} {cs : List Value} {x : DataW H × List MemPlace} (h : DataW.trod enc Tryz.prog w base spare held fuel 23 cs = some x) : ∃ r : Row, (∀ y, y ∈ r → Lim y.2) ∧ RdC (fun b => b < w.heap.size) w (V r) cs := by
  obtain ⟨l, h1, h2⟩ := rd_slice (size := 2) J z0 (fun y => Lim y.2) Tryz.underlying23 (by kernel_rfl) (by decide) (fun n cs x hl h => rd_int hl h) h
  exact ⟨l, h1, h2⟩
end
theorem rd_arg2 {P : Program} {t : TypeId} {fs : Array Field} {H : Type} {enc : TypeId × Value → H} {w : World} {r : Reach} {base base' : Nat} {spare : Nat → Bool} {held : Bool} {v : Value} {d : DataW H} {p : List MemPlace} (ht : P.underlying t = some (.struct fs)) (hc : P.cellsOf t = 2)
    (el : ∀ (n : Nat) (cs : List Value) (x : DataW H × List MemPlace), cs.length = 2 → DataW.trod enc P w base spare held n t cs = some x → ∃ y : Bool × List Nat, Lim y.2 ∧ RdC (fun b => b < w.heap.size) w (J y) cs)
    (hv : Value.okWide P w r base' t v) (h : DataW.Trod enc P w base spare held t v d p) : ∃ m : Bool × List Nat, Lim m.2 ∧ Rd (fun b => b < w.heap.size) w v (J m) := by
  obtain ⟨cs, rfl, hsz⟩ := okWide_struct ht hv
  obtain ⟨fuel, hf⟩ := h
  have hcs : (Value.agg cs).cells.toList = cs.toList := by simp [Value.cells]
  rw [hcs] at hf
  obtain ⟨y, h1, h2⟩ := el _ _ _ (by simpa using hsz.trans hc) hf
  exact ⟨y, h1, cs.toList, h2, by unfold J I pack; simp⟩
set_option maxRecDepth 100000 in
theorem rd_arg {H : Type} {enc : TypeId × Value → H} {w : World} {r : Reach} {base base' : Nat} {spare : Nat → Bool} {held : Bool} {v : Value} {d : DataW H} {p : List MemPlace} (hv : Value.okWide Tryz.prog w r base' 26 v)
    (h : DataW.Trod enc Tryz.prog w base spare held 26 v d p) : ∃ m : Bool × List Nat, Lim m.2 ∧ Rd (fun b => b < w.heap.size) w v (J m) :=
  have hc : Tryz.prog.cellsOf 26 = 2 := by kernel_rfl
  have el : ∀ (n : Nat) (cs : List Value) (x : DataW H × List MemPlace), cs.length = 2 → DataW.trod enc Tryz.prog w base spare held n 26 cs = some x → ∃ y : Bool × List Nat, Lim y.2 ∧ RdC (fun b => b < w.heap.size) w (J y) cs := fun _ _ _ hl h => rd_int hl h
  rd_arg2 (P := Tryz.prog) (t := 26) (v := v) (r := r) (base := base) (base' := base') Tryz.underlying26 hc el hv h
theorem i64_of {n : Int} (h : (Lit.int .i64 n).wf = true) : -9223372036854775808 ≤ n ∧ n < 9223372036854775808 := by
  simp [Lit.wf, IntKind.min, IntKind.max, IntKind.signed, IntKind.bits] at h
  omega
theorem calls_of_meets {g : FuncId} {args : List Value} {fs : List Fact} {w : World} (h : Meets Tryz.prog g args fs (fun r os fs' => os = [] ∧ fs' = [] ∧ r = .bool true)) (hf : HF (fun b => b < w.heap.size) w fs) :
    Calls Tryz.prog g args.toArray w fun e w' => e = .returned (.bool true) ∧ Below w.heap.size w w' := by
  refine (h.calls (fun _ => False) w (fun _ h => h.elim) (hf.mono (fun _ _ => rfl) fun b hb => ⟨hb, id⟩)).mono ?_
  rintro e w' ⟨v, os', fs', rfl, ⟨rfl, rfl, rfl⟩, hh⟩
  exact ⟨rfl, hh.below⟩
theorem own0 : ownKnob Tryz.prog.godebug = none := by kernel_rfl
theorem laid0 : laidOutB Tryz.prog = true := by kernel_rfl
open Go.RowKit
class TMap (P : Program) (t : TypeId) (k e : outParam TypeId) : Prop where
  und : P.underlying t = some (.map k e)
  keyed : Maps.Keyed P k
def ownM (v : Value) (n : Nat) (k : Nat → Value) (d : Nat → Dat) : Own := own1 v 0 0 (fun _ => .mp n k d)
def ownW (p : Value) (n : Nat) (k : Nat → Value) (d : Nat → Dat) (c : Value) : Own := own1 p 0 0 (fun i => if i = 0 then .mp n k d else .one c)
def isKey (P : Program) (t : TypeId) (v : Value) : Prop := ∃ l, keyOf P t v = some l
def skip {α : Type} (j : Nat) (f : Nat → α) (i : Nat) : α := if i < j then f i else f (i + 1)
theorem map_make {P : Program} {t : TypeId} {os : List Own} {fs : List Fact} {K : Cont} (ks : Nat → Value) (d : Nat → Dat)
    (k : ∀ v, (∃ r, v = .map (some r)) → K v (ownM v 0 ks d :: os) fs) : MapMakeK P t os fs K := by
  refine ⟨fun G w hw => ?_⟩
  have hrun : (val (Instr.makeMap t none)).run P w = .ok (.value (.map (some w.heap.size))) (w.alloc (.map #[] 0)) := by
    simp [val, Instr.makeMap, newObj]
    rfl
  rw [hrun]
  have hb : Below w.heap.size w (w.alloc (.map #[] 0)) := (Below.refl _ _).alloc (Nat.le_refl _) _
  have hnew : (w.alloc (.map #[] 0)).heap[w.heap.size]? = some (.map #[] 0) := by show (w.heap.push _)[w.heap.size]? = _; simp
  exact ⟨hb, _, fs, k _ ⟨_, rfl⟩, hw.alloc _ (.map #[] 0) _ hb rfl (.inr rfl) (.inr (.inr (.inr ⟨rfl, rfl, 0, ks, d, rfl, .inl ⟨_, #[], 0, rfl, hw.size, hnew, ⟨by simp, by simp⟩, Nat.zero_le _, rfl, fun i hi => absurd hi (Nat.not_lt_zero _)⟩⟩)))⟩
theorem Holds.step2 {G : Ctx} {os : List Own} {fs : List Fact} {w w' : World} (h : Holds G os fs w) {pos : Nat} {o o' : Own} (hp : nthOwn os pos = some o)
    (ho : w'.os = w.os) (htp : w'.tape = w.tape) (hou : w'.output = w.output) (hsz : w.heap.size ≤ w'.heap.size)
    (hblk : ∀ k, k < w.heap.size → ¬ o.has k → w'.heap[k]? = w.heap[k]?)
    (hnew : ∀ b, o'.has b → o.has b ∨ (w.heap.size ≤ b))
    (hinj : ∀ i j b, i < o'.m → j < o'.m → vblk (o'.v i) = some b → vblk (o'.v j) = some b → i = j)
    (hown : Agree (Good G.A os w) w w' → (∀ b, Good G.A os w b → Good G.A (setOwn os pos o') w' b) → ∀ i, i < o'.m → OwnVal (Good G.A (setOwn os pos o') w') G.B w' (o'.v i) o'.size (o'.n i) (o'.e i)) :
    Holds G (setOwn os pos o') fs w' := by
  have hmem : ∀ b, o.has b → owned os b := fun b hb => owned_mem.2 ⟨o, nthOwn_mem hp, hb⟩
  have hg : ∀ b, Good G.A os w b → Good G.A (setOwn os pos o') w' b := fun b ⟨g1, g2, g3⟩ => ⟨Nat.lt_of_lt_of_le g1 hsz, g2, fun hb => by
    rcases owned_setOwn hb with hb | hb
    · rcases hnew b hb with hb | hb
      · exact g3 (hmem b hb)
      · omega
    · exact g3 hb⟩
  have ha : Agree (Good G.A os w) w w' := fun b hb => hblk b hb.1 fun h' => hb.2.2 (hmem b h')
  exact h.step hp ho htp hou hsz hblk hnew hinj fun _ => hown ha hg
theorem Ents.get {S : Nat → Prop} {w : World} {es : Array MapEntry} {n : Nat} {k : Nat → Value} {e : Nat → Dat} (h : Ents S w es n k e) {x : MapEntry} {i : Nat} (hx : es.toList[i]? = some x) :
    i < n ∧ x.key = k i ∧ ∃ cs, RdC S w (e i) cs ∧ x.val = pack (e i) cs := by
  have hx' : es[i]? = some x := by simpa using hx
  have hi : i < n := by have := (Array.getElem?_eq_some_iff.1 hx').1; have := h.1; omega
  obtain ⟨y, h1, h2⟩ := h.2 i hi
  rw [hx'] at h1
  obtain rfl := Option.some.inj h1
  exact ⟨hi, h2⟩
theorem Ents.keys {P : Program} {t : TypeId} {S : Nat → Prop} {w : World} {es : Array MapEntry} {n : Nat} {k : Nat → Value} {e : Nat → Dat} (h : Ents S w es n k e) (hk : ∀ i, i < n → isKey P t (k i)) :
    ∀ x, x ∈ es.toList → ∃ l, keyOf P t x.key = some l := fun x hx => by
  obtain ⟨i, hi⟩ := List.getElem?_of_mem hx
  obtain ⟨h1, h2, _⟩ := h.get hi
  rw [h2]
  exact hk i h1
theorem Stp.push {es : Array MapEntry} {clock : Nat} (h : Stp es clock) (key val : Value) : Stp (es.push { key, val, born := clock }) (clock + 1) := by
  refine ⟨fun x hx => ?_, ?_⟩
  · simp only [Array.toList_push, List.mem_append, List.mem_singleton] at hx
    rcases hx with hx | rfl
    · exact Nat.lt_succ_of_lt (h.1 x hx)
    · exact Nat.lt_succ_self _
  · simp only [Array.toList_push, List.map_append, List.map_cons, List.map_nil]
    refine List.nodup_append.2 ⟨h.2, by simp, fun a ha b hb => ?_⟩
    simp only [List.mem_singleton] at hb
    obtain ⟨x, hx, rfl⟩ := List.mem_map.1 ha
    have := h.1 x hx
    omega
def mpu {α : Type} (j : Nat) (x : α) (f : Nat → α) (i : Nat) : α := if i = j then x else f i
theorem mpu_same {α : Type} (j : Nat) (x : α) (f : Nat → α) : mpu j x f j = x := by simp [mpu]
theorem mpu_other {α : Type} {j : Nat} (x : α) (f : Nat → α) {i : Nat} (h : i ≠ j) : mpu j x f i = f i := by simp [mpu, h]
theorem map_new {P : Program} {t k e : TypeId} [ht : TMap P t k e] {v key x : Value} {n : Nat} {ks : Nat → Value} {d : Nat → Dat} {dx : Dat} {os : List Own} {fs : List Fact} {K : Cont} (pos : Nat) (h : nthOwn os pos = some (ownM v n ks d))
    (hv : ∃ r, v = .map (some r)) (hks : ∀ i, i < n → isKey P k (ks i)) (hkey : isKey P k key) (hno : ∀ i, i < n → ks i ≠ key) (hn : n < maxLen) (hx : Knw os fs x dx)
    (kk : K undef (setOwn os pos (ownM v (n + 1) (mpu n key ks) (mpu n dx d))) fs) : MapPutK P t v key x os fs K := by
  refine ⟨fun G w hw => ?_⟩
  obtain ⟨cs, hx1, rfl⟩ := hx G w hw
  obtain ⟨r, rfl⟩ := hv
  rcases hw.own _ (nthOwn_mem h) 0 Nat.zero_lt_one with ⟨h1, _⟩ | ⟨_, _, h1, _⟩ | ⟨_, h1, _⟩ | ⟨_, _, n', k', d', he, ⟨r', es, clock, h1, h2, h3, h4, h5, h6⟩ | ⟨_, _, _, _, _, _, _, h1, _⟩⟩
  · simp [ownM, own1] at h1
  · simp [ownM, own1] at h1
  · simp [ownM, own1] at h1
  · simp only [ownM, own1, Value.map.injEq, Option.some.injEq] at h1
    subst h1
    simp only [ownM, own1, Dat.mp.injEq] at he
    obtain ⟨rfl, rfl, rfl⟩ := he
    obtain ⟨l, hl⟩ := hkey
    have hfind : (Instr.findKey k key es.toList).run P w = .ok none w := by
      rcases ht.keyed.find w hl es.toList (h6.keys hks) with ⟨g1, _⟩ | ⟨j, e0, g1, g2, g3⟩
      · exact g1
      · obtain ⟨q1, q2, _⟩ := h6.get g2
        exact absurd (q2.symm.trans g3) (hno j q1)
    have hrun : (Instr.mapUpdate t (.map (some r)) key (pack dx cs)).run P w = .ok () (ChangeMaps.setBlock w r (.map (es.push ⟨key, pack dx cs, clock⟩) (clock + 1))) := by
      simp [Instr.mapUpdate, run_underlying ht.und, MapKept.run_getObj_map h3, ht.keyed.check w false hl, hfind, MapKept.run_setObj_map _ h3, Result.andThen, ChangeMaps.setBlock]
    rw [unt_run hrun]
    refine ⟨_, fs, kk, hw.step2 h rfl rfl rfl (by simp [ChangeMaps.setBlock]) (fun b _ hb => ?_) (fun b hb => .inl ?_) (fun i j b hi hj _ _ => by simp only [ownM, own1] at hi hj; omega) fun ha hg i hi => ?_⟩
    · exact (MapKept.heap_set h3).2 b fun e => hb ⟨0, Nat.zero_lt_one, by rw [e]; rfl⟩
    · obtain ⟨i, _, hb⟩ := hb; exact ⟨0, Nat.zero_lt_one, hb⟩
    · have hes := h6.mono ha hg
      have hdx := hx1.mono ha hg
      refine .inr (.inr (.inr ⟨rfl, rfl, n + 1, _, _, rfl, .inl ⟨r, _, _, rfl, h2, (MapKept.heap_set h3).1, h4.push _ _, by omega, by simp [h6.1], fun y hy => ?_⟩⟩))
      by_cases hyn : y = n
      · subst hyn
        rw [mpu_same, mpu_same]
        exact ⟨⟨key, pack dx cs, clock⟩, by rw [← h6.1]; simp, rfl, cs, hdx, rfl⟩
      · obtain ⟨u, u1, u2, u3⟩ := hes.2 y (by omega)
        rw [mpu_other _ _ hyn, mpu_other _ _ hyn]
        refine ⟨u, ?_, u2, u3⟩
        rw [Array.getElem?_push, if_neg (by rw [h6.1]; omega)]
        exact u1
  · simp [ownM, own1] at h1
theorem Stp.modify {es : Array MapEntry} {clock : Nat} (h : Stp es clock) (j : Nat) (key val : Value) : Stp (es.modify j fun e => { e with key := key, val := val }) clock := by
  have hm : (es.modify j fun e => { e with key := key, val := val }).toList.map (·.born) = es.toList.map (·.born) := by
    refine List.ext_getElem? fun i => ?_
    simp only [List.getElem?_map, Array.toList_modify]
    rw [List.getElem?_modify]
    by_cases hij : j = i
    · simp only [hij, if_true]; cases es.toList[i]? <;> rfl
    · simp [hij]
  refine ⟨fun x hx => ?_, by rw [hm]; exact h.2⟩
  have : x.born ∈ es.toList.map (·.born) := by rw [← hm]; exact List.mem_map.2 ⟨x, hx, rfl⟩
  obtain ⟨y, hy, hyb⟩ := List.mem_map.1 this
  rw [← hyb]
  exact h.1 y hy
theorem map_set {P : Program} {t k e : TypeId} [ht : TMap P t k e] {v key x : Value} {n : Nat} {ks : Nat → Value} {d : Nat → Dat} {dx : Dat} {os : List Own} {fs : List Fact} {K : Cont} (pos : Nat) (h : nthOwn os pos = some (ownM v n ks d))
    (hv : ∃ r, v = .map (some r)) (hks : ∀ i, i < n → isKey P k (ks i)) (hkey : isKey P k key) (j : Nat) (hj : j < n) (hjk : ks j = key) (hone : ∀ i, i < n → ks i = key → i = j) (hx : Knw os fs x dx)
    (kk : K undef (setOwn os pos (ownM v n ks (mpu j dx d))) fs) : MapPutK P t v key x os fs K := by
  refine ⟨fun G w hw => ?_⟩
  obtain ⟨cs, hx1, rfl⟩ := hx G w hw
  obtain ⟨r, rfl⟩ := hv
  rcases hw.own _ (nthOwn_mem h) 0 Nat.zero_lt_one with ⟨h1, _⟩ | ⟨_, _, h1, _⟩ | ⟨_, h1, _⟩ | ⟨_, _, n', k', d', he, ⟨r', es, clock, h1, h2, h3, h4, h5, h6⟩ | ⟨_, _, _, _, _, _, _, h1, _⟩⟩
  · simp [ownM, own1] at h1
  · simp [ownM, own1] at h1
  · simp [ownM, own1] at h1
  · simp only [ownM, own1, Value.map.injEq, Option.some.injEq] at h1
    subst h1
    simp only [ownM, own1, Dat.mp.injEq] at he
    obtain ⟨rfl, rfl, rfl⟩ := he
    obtain ⟨l, hl⟩ := hkey
    obtain ⟨e0, hfind, g2, g3⟩ : ∃ e0, (Instr.findKey k key es.toList).run P w = .ok (some (j, e0.val)) w ∧ es.toList[j]? = some e0 ∧ e0.key = key := by
      rcases ht.keyed.find w hl es.toList (h6.keys hks) with ⟨_, g2⟩ | ⟨j', e0, g1, g2, g3⟩
      · obtain ⟨u, u1, u2, _⟩ := h6.2 j hj
        exact absurd (u2.trans hjk) (g2 u (List.mem_of_getElem? (by simpa using u1)))
      · obtain ⟨q1, q2, _⟩ := h6.get g2
        obtain rfl := hone j' q1 (q2.symm.trans g3)
        exact ⟨e0, g1, g2, g3⟩
    have hes0 : es[j]? = some e0 := by simpa using g2
    have hrun : (Instr.mapUpdate t (.map (some r)) key (pack dx cs)).run P w = .ok () (ChangeMaps.setBlock w r (.map (es.modify j fun e => { e with key := key, val := pack dx cs }) clock)) := by
      simp [Instr.mapUpdate, run_underlying ht.und, MapKept.run_getObj_map h3, ht.keyed.check w false hl, hfind, hes0, g3, ht.keyed.stays w hl, MapKept.run_setObj_map _ h3, Result.andThen, ChangeMaps.setBlock]
    rw [unt_run hrun]
    refine ⟨_, fs, kk, hw.step2 h rfl rfl rfl (by simp [ChangeMaps.setBlock]) (fun b _ hb => ?_) (fun b hb => .inl ?_) (fun i j b hi hj _ _ => by simp only [ownM, own1] at hi hj; omega) fun ha hg i hi => ?_⟩
    · exact (MapKept.heap_set h3).2 b fun e => hb ⟨0, Nat.zero_lt_one, by rw [e]; rfl⟩
    · obtain ⟨i, _, hb⟩ := hb; exact ⟨0, Nat.zero_lt_one, hb⟩
    · have hes := h6.mono ha hg
      have hdx := hx1.mono ha hg
      refine .inr (.inr (.inr ⟨rfl, rfl, n, _, _, rfl, .inl ⟨r, _, _, rfl, h2, (MapKept.heap_set h3).1, h4.modify _ _ _, h5, by simp [h6.1], fun y hy => ?_⟩⟩))
      obtain ⟨u, u1, u2, u3⟩ := hes.2 y hy
      by_cases hyn : y = j
      · subst hyn
        rw [mpu_same]
        exact ⟨{ u with key := key, val := pack dx cs }, by rw [Array.getElem?_modify, if_pos rfl, u1]; rfl, hjk.symm, cs, hdx, rfl⟩
      · rw [mpu_other _ _ hyn]
        refine ⟨u, ?_, u2, u3⟩
        rw [Array.getElem?_modify, if_neg (fun h => hyn h.symm)]
        exact u1
  · simp [ownM, own1] at h1
theorem Rd.mp {S : Nat → Prop} {w : World} {v : Value} {n : Nat} {k : Nat → Value} {e : Nat → Dat} (h : Rd S w v (.mp n k e)) :
    ∃ r es clock, v = .map (some r) ∧ S r ∧ w.heap[r]? = some (.map es clock) ∧ Stp es clock ∧ n ≤ maxLen ∧ Ents S w es n k e := by
  obtain ⟨cs, ⟨r, es, clock, rfl, h2, h3, h4, h5, h6, h7⟩, rfl⟩ := h
  exact ⟨r, es, clock, rfl, h2, h3, h4, h6, h5, fun i hi => let ⟨x, cs', k1, k2, k3, k4⟩ := h7 i hi; ⟨x, k1, k2, cs', k3, k4⟩⟩
theorem map_get {P : Program} {t k e : TypeId} [ht : TMap P t k e] {v key : Value} {n : Nat} {ks : Nat → Value} {d : Nat → Dat} {os : List Own} {fs : List Fact} {K : Cont} (hm : (v, .mp n ks d) ∈ fs)
    (hks : ∀ i, i < n → isKey P k (ks i)) (hkey : isKey P k key) (j : Nat) (hj : j < n) (hjk : ks j = key) (hone : ∀ i, i < n → ks i = key → i = j)
    (kk : ∀ u, K u os ((u, d j) :: fs)) : MapGetK P t v key false os fs K := by
  refine ⟨fun G w hw => ?_⟩
  obtain ⟨r, es, clock, rfl, h2, h3, h4, h5, h6⟩ := (hw.facts _ hm).mp
  obtain ⟨l, hl⟩ := hkey
  obtain ⟨u, u1, u2, cs, u3, u4⟩ := h6.2 j hj
  refine ⟨u.val, _, fun w' hb => val_run ?_, kk _, hw.put ⟨cs, u3, u4⟩⟩
  have h3' : w'.heap[r]? = some (.map es clock) := (hb.block r h2.1).trans h3
  have hfind : (Instr.findKey k key es.toList).run P w' = .ok (some (j, u.val)) w' := by
    rcases ht.keyed.find w' hl es.toList (h6.keys hks) with ⟨_, g2⟩ | ⟨j', e0, g1, g2, g3⟩
    · exact absurd (u2.trans hjk) (g2 u (List.mem_of_getElem? (by simpa using u1)))
    · obtain ⟨q1, q2, _⟩ := h6.get g2
      obtain rfl := hone j' q1 (q2.symm.trans g3)
      have : es[j']? = some e0 := by simpa using g2
      rw [u1] at this
      obtain rfl := Option.some.inj this
      exact g1
  simp [Instr.lookup, run_underlying ht.und, MapKept.run_getObj_map h3', ht.keyed.check w' _ hl, hfind, Result.andThen]
class TZeroV (P : Program) (t : TypeId) (d : outParam Dat) : Prop where
  zero : ∃ i z, P.info? t = some i ∧ i.zero = some z ∧ (∀ S w, Rd S w z d)
theorem map_none {P : Program} {t k e : TypeId} [ht : TMap P t k e] {z : Dat} [hz : TZeroV P e z] {v key : Value} {n : Nat} {ks : Nat → Value} {d : Nat → Dat} {os : List Own} {fs : List Fact} {K : Cont} (hm : (v, .mp n ks d) ∈ fs)
    (hks : ∀ i, i < n → isKey P k (ks i)) (hkey : isKey P k key) (hno : ∀ i, i < n → ks i ≠ key)
    (kk : ∀ u, K u os ((u, z) :: fs)) : MapGetK P t v key false os fs K := by
  refine ⟨fun G w hw => ?_⟩
  obtain ⟨r, es, clock, rfl, h2, h3, h4, h5, h6⟩ := (hw.facts _ hm).mp
  obtain ⟨l, hl⟩ := hkey
  obtain ⟨i, zv, z1, z2, z3⟩ := hz.zero
  refine ⟨zv, _, fun w' hb => val_run ?_, kk _, hw.put (z3 _ _)⟩
  have h3' : w'.heap[r]? = some (.map es clock) := (hb.block r h2.1).trans h3
  have hfind : (Instr.findKey k key es.toList).run P w' = .ok none w' := by
    rcases ht.keyed.find w' hl es.toList (h6.keys hks) with ⟨g1, _⟩ | ⟨j, e0, g1, g2, g3⟩
    · exact g1
    · obtain ⟨q1, q2, _⟩ := h6.get g2
      exact absurd (q2.symm.trans g3) (hno j q1)
  simp [Instr.lookup, run_underlying ht.und, MapKept.run_getObj_map h3', ht.keyed.check w' _ hl, hfind, Result.andThen, zeroValue, typeInfo, z1, z2]
open Go.RowKit
theorem leftOf_none (es : Array MapEntry) : leftOf es #[] = es := by simp [leftOf]
theorem map_range {P : Program} {t k e : TypeId} [ht : TMap P t k e] {v : Value} {n : Nat} {ks : Nat → Value} {d : Nat → Dat} {os : List Own} {fs : List Fact} {K : Cont} (hm : (v, .mp n ks d) ∈ fs)
    (kk : ∀ p, isBox p → K p (ownW p n ks d (.bool false) :: os) fs) : RangeK P t v os fs K := by
  refine ⟨fun G w hw => ?_⟩
  obtain ⟨r, es, clock, rfl, h2, h3, h4, h5, h6⟩ := (hw.facts _ hm).mp
  have hrun : (val (Instr.range t (.map (some r)))).run P w = .ok (.value (.pointer (some ⟨w.heap.size, 0, none⟩))) (w.alloc (.mapIter (some r) clock #[] clock)) := val_run' (run_range_map w t k e r es clock ht.und h3)
  rw [hrun]
  have hb : Below w.heap.size w (w.alloc (.mapIter (some r) clock #[] clock)) := (Below.refl _ _).alloc (Nat.le_refl _) _
  have hnew : (w.alloc (.mapIter (some r) clock #[] clock)).heap[w.heap.size]? = some (.mapIter (some r) clock #[] clock) := by show (w.heap.push _)[w.heap.size]? = _; simp
  have hg : ∀ b, Good G.A os w b → Good G.A (ownW (.pointer (some ⟨w.heap.size, 0, none⟩)) n ks d (.bool false) :: os) (w.alloc (.mapIter (some r) clock #[] clock)) b := fun b ⟨g1, g2, g3⟩ =>
    ⟨Nat.lt_of_lt_of_le g1 hb.size, g2, fun ho => ho.elim (fun ⟨i, hi, hv⟩ => by
      simp only [ownW, own1, vblk, Option.some.injEq] at hv
      omega) g3⟩
  have ha : Agree (Good G.A os w) w (w.alloc (.mapIter (some r) clock #[] clock)) := agree_alloc _ Good.lt
  refine ⟨hb, _, fs, kk _ ⟨_, rfl⟩, hw.alloc _ (.mapIter (some r) clock #[] clock) _ hb rfl (.inr rfl) (.inr (.inr (.inr ⟨rfl, rfl, n, ks, d, rfl, .inr
    ⟨_, r, clock, #[], clock, es, clock, rfl, hw.size, hnew, hg r h2, (hb.block r h2.1).trans h3, h4, h4.1, Nat.le_refl _, Nat.le_refl _, by rw [leftOf_none]; exact h6.mono ha hg, fun c hc => ?_⟩⟩)))⟩
  simp only [ownW, own1, if_neg (show ¬ (1 : Nat) = 0 by decide), Dat.one.injEq] at hc
  cases hc
theorem leftOf_push {es : Array MapEntry} {seen : Array Nat} {x : MapEntry} {j : Nat} (hn : (es.toList.map (·.born)).Nodup) (hx : (leftOf es seen).toList[j]? = some x) :
    (leftOf es (seen.push x.born)).toList = (leftOf es seen).toList.eraseIdx j := by
  have h1 : (leftOf es (seen.push x.born)).toList = (leftOf es seen).toList.filter (fun y => !(y.born == x.born)) := by
    simp only [leftOf, Array.toList_filter, List.filter_filter]
    congr 1
    funext y
    rw [contains_push]
    cases seen.contains y.born <;> cases (y.born == x.born) <;> rfl
  rw [h1]
  refine ChangeMaps.filter_eq_eraseIdx (fun y => y.born == x.born) _ j x hx (by simp) ?_
  have h2 : ((leftOf es seen).toList.map (·.born)).Nodup := by
    refine List.Nodup.sublist ?_ hn
    simp only [leftOf, Array.toList_filter]
    exact List.Sublist.map _ List.filter_sublist
  rw [List.Nodup, List.pairwise_map] at h2
  refine h2.imp fun {a b} hab ⟨e1, e2⟩ => hab ?_
  simp only [beq_iff_eq] at e1 e2
  rw [e1, e2]
theorem walk_next {P : Program} {p : Value} {ty : TypeId} {n : Nat} {ks : Nat → Value} {d : Nat → Dat} {c : Value} {os : List Own} {fs : List Fact} {K : Cont} (pos : Nat) (h : nthOwn os pos = some (ownW p n ks d c)) (hp : isBox p)
    (h0 : n = 0 → K (.tuple #[.bool false]) os fs)
    (h1 : ∀ j x, j < n → K (.tuple #[.bool true, ks j, x]) (setOwn os pos (ownW p (n - 1) (skip j ks) (skip j d) (.tuple #[ks j, x]))) ((x, d j) :: fs)) : NextK P p false ty os fs K := by
  refine ⟨fun G w hw => ?_⟩
  obtain ⟨r0, rfl⟩ := hp
  rcases hw.own _ (nthOwn_mem h) 0 Nat.zero_lt_one with ⟨g1, _⟩ | ⟨_, _, g1, _⟩ | ⟨_, _, g1, _⟩ | ⟨_, _, n', k', d', he, ⟨r', es, clock, g1, _⟩ | ⟨r', b, since, seen, last, es, clock, g1, g2, g3, g4, g5, g6, g7, g8, g8', g9, _⟩⟩
  · simp [ownW, own1] at g1
  · simp [ownW, own1] at g1
  · simp [ownW, own1] at g1
  · simp [ownW, own1] at g1
  simp only [ownW, own1, Value.pointer.injEq, Option.some.injEq, Addr.mk.injEq, and_true] at g1
  subst g1
  simp only [ownW, own1, if_true, Dat.mp.injEq] at he
  obtain ⟨rfl, rfl, rfl⟩ := he
  rcases run_next_at (P := P) w ty r0 b since last seen es clock g3 g5 g7 g8 with ⟨q1, q2⟩ | ⟨x, q1, w1, q2, q3⟩
  · rw [val_run' q2]
    exact ⟨os, fs, h0 (by rw [← g9.1]; exact q1), hw⟩
  · obtain ⟨j, hj⟩ := List.getElem?_of_mem q1
    obtain ⟨hjn, hk, cs, hcs, hv⟩ := g9.get hj
    rw [val_run' q3]
    have hr1 : w1.heap[r0]? = some (.mapIter (some b) since seen last) := by rcases q2 with rfl | rfl <;> exact g3
    have hset := MapKept.heap_set (o' := .mapIter (some b) since (seen.push x.born) clock) hr1
    have hw1 : w1.heap = w.heap ∧ w1.os = w.os ∧ w1.tape = w.tape ∧ w1.output = w.output := by rcases q2 with rfl | rfl <;> exact ⟨rfl, rfl, rfl, rfl⟩
    have hne : ∀ y, y ≠ r0 → (ChangeMaps.setBlock w1 r0 (.mapIter (some b) since (seen.push x.born) clock)).heap[y]? = w.heap[y]? := fun y hy => (hset.2 y hy).trans (by rw [hw1.1])
    have hbr : b ≠ r0 := fun e => by rw [e, g3] at g5; cases g5
    have hkx := h1 j x.val hjn
    rw [← hk] at hkx
    refine ⟨_, _, hkx, Holds.put (hw.step2 h hw1.2.1 hw1.2.2.1 hw1.2.2.2 (by simp [ChangeMaps.setBlock, hw1.1]) (fun y _ hy => hne y fun e => hy ⟨0, Nat.zero_lt_one, by rw [e]; rfl⟩) (fun y hy => .inl ?_) (fun i j b hi hj _ _ => by simp only [ownW, own1] at hi hj; omega) fun ha hg i hi => ?_) ?_⟩
    · obtain ⟨i, _, hy⟩ := hy; exact ⟨0, Nat.zero_lt_one, hy⟩
    · refine .inr (.inr (.inr ⟨rfl, rfl, n - 1, _, _, rfl, .inr ⟨r0, b, since, seen.push x.born, clock, es, clock, rfl, g2, hset.1, hg b g4, (hne b hbr).trans g5, g6, g7, g8', g8', ?_, fun c hc => ?_⟩⟩))
      · have hl := leftOf_push g6.2 hj
        have hes := g9.mono ha hg
        have hlen : (leftOf es seen).toList.length = n := by simpa using g9.1
        refine ⟨?_, fun y hy => ?_⟩
        · have : (leftOf es (seen.push x.born)).toList.length = n - 1 := by rw [hl, List.length_eraseIdx, hlen, if_pos hjn]
          simpa using this
        · have hget : (leftOf es (seen.push x.born))[y]? = (leftOf es seen)[if y < j then y else y + 1]? := by
            rw [← Array.getElem?_toList, hl, List.getElem?_eraseIdx]
            split <;> simp
          obtain ⟨u, u1, u2, u3⟩ := hes.2 (if y < j then y else y + 1) (by split <;> omega)
          refine ⟨u, hget.trans u1, ?_, ?_⟩
          · rw [u2]; unfold skip; split <;> rfl
          · have e1 : skip j d y = d (if y < j then y else y + 1) := by unfold skip; split <;> rfl
            rw [e1]; exact u3
      · simp only [ownW, own1, if_neg (show ¬ (1 : Nat) = 0 by decide), Dat.one.injEq, Value.tuple.injEq] at hc
        exact ⟨x, seen, (mem_left q1).1, rfl, hc.symm, rfl⟩
    · have ha : Agree (Good G.A os w) w (ChangeMaps.setBlock w1 r0 (.mapIter (some b) since (seen.push x.born) clock)) := fun y hy => hne y fun e => hy.2.2 (by rw [e]; exact owned_mem.2 ⟨_, nthOwn_mem h, 0, Nat.zero_lt_one, rfl⟩)
      refine ⟨cs, hcs.mono ha fun y ⟨z1, z2, z3⟩ => ⟨by simpa [ChangeMaps.setBlock, hw1.1] using z1, z2, fun hy => ?_⟩, hv⟩
      rcases owned_setOwn hy with hy | hy
      · obtain ⟨i, hi, hy⟩ := hy
        exact z3 (owned_mem.2 ⟨_, nthOwn_mem h, 0, Nat.zero_lt_one, hy⟩)
      · exact z3 hy
theorem walk_entry {P : Program} {p : Value} {n : Nat} {ks : Nat → Value} {d : Nat → Dat} {c : Array Value} {os : List Own} {fs : List Fact} {K : Cont} (pos : Nat) (h : nthOwn os pos = some (ownW p n ks d (.tuple c))) (hp : isBox p)
    (kk : K (.tuple c) os fs) : EntryK P p os fs K := by
  refine ⟨fun G w hw => ?_⟩
  obtain ⟨r0, rfl⟩ := hp
  rcases hw.own _ (nthOwn_mem h) 0 Nat.zero_lt_one with ⟨g1, _⟩ | ⟨_, _, g1, _⟩ | ⟨_, _, g1, _⟩ | ⟨_, _, n', k', d', he, ⟨r', es, clock, g1, _⟩ | ⟨r', b, since, seen, last, es, clock, g1, g2, g3, g4, g5, g6, g7, g8, g8', g9, g10⟩⟩
  · simp [ownW, own1] at g1
  · simp [ownW, own1] at g1
  · simp [ownW, own1] at g1
  · simp [ownW, own1] at g1
  simp only [ownW, own1, Value.pointer.injEq, Option.some.injEq, Addr.mk.injEq, and_true] at g1
  subst g1
  obtain ⟨x, s0, q1, rfl, rfl, rfl⟩ := g10 c rfl
  rw [val_run' (run_entry_at (P := P) w r0 b since s0 es last x g3 g5 q1 g6.2)]
  exact ⟨os, fs, kk, hw⟩
theorem Seals.map {os : List Own} {fs : List Fact} (pos : Nat) {v : Value} {n : Nat} {ks : Nat → Value} {d : Nat → Dat} (h : nthOwn os pos = some (ownM v n ks d)) (hv : ∃ r, v = .map (some r)) :
    Seals os fs (dropOwn os pos) ((v, .mp n ks d) :: fs) := by
  intro G w hw
  refine (hw.drop pos).put ?_
  have hg : ∀ b, Good G.A os w b → Good G.A (dropOwn os pos) w b := fun b ⟨h1, h2, h3⟩ => ⟨h1, h2, fun hb => h3 (by
    obtain ⟨x, hx, hxb⟩ := owned_mem.1 hb
    obtain ⟨i, _, hi⟩ := dropOwn_mem hx
    exact owned_mem.2 ⟨x, nthOwn_mem hi, hxb⟩)⟩
  obtain ⟨r, rfl⟩ := hv
  rcases hw.own _ (nthOwn_mem h) 0 Nat.zero_lt_one with ⟨h1, _⟩ | ⟨_, _, h1, _⟩ | ⟨_, h1, _⟩ | ⟨_, _, n', k', d', he, ⟨r', es, clock, h1, h2, h3, h4, h5, h6⟩ | ⟨_, _, _, _, _, _, _, h1, _⟩⟩
  · simp [ownM, own1] at h1
  · simp [ownM, own1] at h1
  · simp [ownM, own1] at h1
  · simp only [ownM, own1, Value.map.injEq, Option.some.injEq] at h1
    subst h1
    simp only [ownM, own1, Dat.mp.injEq] at he
    obtain ⟨rfl, rfl, rfl⟩ := he
    refine ⟨[.map (some r)], ⟨r, es, clock, rfl, good_drop hw h ⟨0, Nat.zero_lt_one, rfl⟩, h3, h4, h6.1, h5, fun i hi => ?_⟩, rfl⟩
    obtain ⟨x, x1, x2, cs, x3, x4⟩ := h6.2 i hi
    exact ⟨x, cs, x1, x2, x3.mono (fun _ _ => rfl) hg, x4⟩
  · simp [ownM, own1] at h1
open Go.RowKit
class TSpot (P : Program) (k : TypeId) : Prop where
  und : ∃ f0 f1, P.underlying k = some (.struct #[f0, f1]) ∧ f0.offset = 0 ∧ f1.offset = 1 ∧ (f0.name != "_") = true ∧ (f1.name != "_") = true ∧ P.underlying f0.type = some (.int .i64) ∧ P.underlying f1.type = some (.int .i64) ∧
    P.cellsOf k = 2 ∧ P.cellsOf f0.type = 1 ∧ P.cellsOf f1.type = 1
  kt : P.keyType k = true
  some : ∃ m, P.types.size = m + 1
def spot (x y : Int) : Value := .agg #[.int .i64 x, .int .i64 y]
def spotD (x y : Int) : Dat := .cat (.one (.int .i64 x)) (.one (.int .i64 y))
theorem spot_inj {x y x' y' : Int} (h : spot x y = spot x' y') : x = x' ∧ y = y' := by
  simp only [spot, Value.agg.injEq, Array.mk.injEq, List.cons.injEq, Value.int.injEq, true_and, and_true] at h
  exact h
theorem spot_key {P : Program} {k : TypeId} [ht : TSpot P k] {x y : Int} (hx : inK .i64 x) (hy : inK .i64 y) : isKey P k (spot x y) := by
  obtain ⟨f0, f1, h1, h2, h3, h4, h5, h6, h7, h8, h9, h10⟩ := ht.und
  obtain ⟨m, hm⟩ := ht.some
  simp only [inK] at hx hy
  have wx : (Lit.int .i64 x).wf = true := by simp [Lit.wf, IntKind.min, IntKind.max, IntKind.bits, IntKind.signed]; omega
  have wy : (Lit.int .i64 y).wf = true := by simp [Lit.wf, IntKind.min, IntKind.max, IntKind.bits, IntKind.signed]; omega
  refine ⟨.string (keyBytes [.int .i64 x, .int .i64 y]), ?_⟩
  unfold keyOf
  simp only [h1, ht.kt, spot, Value.formed, h8, Bool.true_and, List.size_toArray, List.length_cons, List.length_nil, beq_self_eq_true, if_true, hm, Value.cells]
  have e : P.keyLits (m + 1 + 1) k [.int .i64 x, .int .i64 y] = some [.int .i64 x, .int .i64 y] := by
    unfold Program.keyLits
    simp only [h1, h8, List.length_cons, List.length_nil]
    have k0 : P.keyLits (m + 1) f0.type [.int .i64 x] = some [.int .i64 x] := by unfold Program.keyLits; simp [h6, wx]
    have k1 : P.keyLits (m + 1) f1.type [.int .i64 y] = some [.int .i64 y] := by unfold Program.keyLits; simp [h7, wy]
    simp [h2, h3, h4, h5, h9, h10, k0, k1]
  rw [e]; rfl
theorem Rd.spot {S : Nat → Prop} {w : World} {v : Value} {x y : Int} (h : Rd S w v (spotD x y)) : v = Go.Proofs.YtjebljkoiaojaaaGreat.spot x y := by
  obtain ⟨cs, ⟨c1, c2, rfl, ⟨rfl, _⟩, ⟨rfl, _⟩⟩, rfl⟩ := h
  rfl
theorem Reads.spot {os : List Own} {fs : List Fact} (x y : Int) : Reads os fs (spot x y) (spotD x y) := fun _ _ _ => ⟨[.int .i64 x, .int .i64 y], ⟨[_], [_], rfl, ⟨rfl, rfl⟩, ⟨rfl, rfl⟩⟩, rfl⟩
theorem build_spot {P : Program} {t : TypeId} {z0 z1 : Value} [ht : TStr2 P t z0 z1] {x y : Int} {os : List Own} {fs : List Fact} {K : Cont} (k : K (spot x y) os fs) : BuildK P t [(0, .int .i64 x), (1, .int .i64 y)] os fs K :=
  ⟨fun _ _ hw => ⟨_, _, fun w' _ => val_run (build_run2 ht rfl rfl w'), k, hw⟩⟩
theorem load_spot {P : Program} {t : TypeId} {v : Value} {size : Nat} {e : Nat → Dat} {x y : Int} {os : List Own} {fs : List Fact} {K : Cont} [ht : TAgg P t 2] (pos : Nat) (h : nthOwn os pos = some (own1 v size 1 e)) (hb : isBox v)
    (hd : e 0 = spotD x y) (k' : K (spot x y) os fs) : LoadK P t v os fs K := by
  obtain ⟨r, rfl⟩ := hb
  refine ⟨fun G w hw => ?_⟩
  have hov := hw.own _ (nthOwn_mem h) 0 Nat.zero_lt_one
  obtain ⟨r', cap, hr⟩ := hov.row Nat.zero_lt_one
  obtain ⟨cs, g1, g2, g3⟩ := hr.row.cellsAt Nat.zero_lt_one
  have hrr : r' = r := by have := hr.blk; simp [own1, vblk] at this; exact this.symm
  subst hrr
  have g1' : RdC (Good G.A os w) w (spotD x y) cs := hd ▸ g1
  have hp : pack (spotD x y) cs = spot x y := Rd.spot ⟨cs, g1', rfl⟩
  refine ⟨_, fs, fun w' hb => val_run ?_, k', hw⟩
  have := loadAt_run (P := P) (t := t) (w := w') (r := r') (o := 0) (d := spotD x y) ht g1' fun j hj => by
    have := g3 w' (hb.block r' (hov.blk hr.blk).2) j hj
    simpa using this
  rwa [hp] at this
class TKy (P : Program) (k : TypeId) : Prop where
  key : ∀ {x y : Int}, inK .i64 x → inK .i64 y → isKey P k (spot x y)
instance (priority := low) TSpot.ky {P : Program} {k : TypeId} [TSpot P k] : TKy P k := ⟨spot_key⟩
section
variable {α : Type}
def spk (t : Nat × Nat × α) : Value := spot (t.1 : Nat) (t.2.1 : Nat)
def Nd (L : List (Nat × Nat × α)) : Prop := L.Pairwise fun s t => ¬ (s.1 = t.1 ∧ s.2.1 = t.2.1)
def In64 (L : List (Nat × Nat × α)) : Prop := ∀ t, t ∈ L → t.1 < 1073741824 ∧ t.2.1 < 1073741824
def lk (z : α) (L : List (Nat × Nat × α)) (i j : Nat) : α := ((L.find? fun t => t.1 == i && t.2.1 == j).map fun t => t.2.2).getD z
def mapK (z : α) (L : List (Nat × Nat × α)) (i : Nat) : Value := spk (L.getD i (0, 0, z))
def mapE (f : α → Dat) (z : α) (L : List (Nat × Nat × α)) (i : Nat) : Dat := f (L.getD i (0, 0, z)).2.2
def MD (f : α → Dat) (z : α) (L : List (Nat × Nat × α)) : Dat := .mp L.length (mapK z L) (mapE f z L)
def ownMD (f : α → Dat) (z : α) (v : Value) (L : List (Nat × Nat × α)) : Own := ownM v L.length (mapK z L) (mapE f z L)
theorem mapK_key {P : Program} {k : TypeId} [TKy P k] {z : α} {L : List (Nat × Nat × α)} (h : In64 L) (i : Nat) (hi : i < L.length) : isKey P k (mapK z L i) := by
  have hm : L.getD i (0, 0, z) ∈ L := by rw [List.getD_eq_getElem?_getD, List.getElem?_eq_getElem hi]; exact List.getElem_mem hi
  have := h _ hm
  exact TKy.key ⟨by omega, by omega⟩ ⟨by omega, by omega⟩
theorem mapK_eq {z : α} {L : List (Nat × Nat × α)} {i a b : Nat} (h : mapK z L i = spot (a : Nat) (b : Nat)) : (L.getD i (0, 0, z)).1 = a ∧ (L.getD i (0, 0, z)).2.1 = b := by
  have := spot_inj h
  omega
theorem lk_some {z : α} {L : List (Nat × Nat × α)} {i j : Nat} : (∃ n, n < L.length ∧ mapK z L n = spot (i : Nat) (j : Nat) ∧ lk z L i j = (L.getD n (0, 0, z)).2.2) ∨ ((∀ n, n < L.length → mapK z L n ≠ spot (i : Nat) (j : Nat)) ∧ lk z L i j = z) := by
  unfold lk
  cases hf : L.find? fun t => t.1 == i && t.2.1 == j with
  | none =>
    refine .inr ⟨fun n hn e => ?_, rfl⟩
    obtain ⟨e1, e2⟩ := mapK_eq e
    have hm : L.getD n (0, 0, z) ∈ L := by rw [List.getD_eq_getElem?_getD, List.getElem?_eq_getElem hn]; exact List.getElem_mem hn
    have := List.find?_eq_none.1 hf _ hm
    rw [e1, e2] at this
    simp at this
  | some t =>
    have h1 := List.find?_some hf
    obtain ⟨n, hn, e⟩ := List.mem_iff_getElem.1 (List.mem_of_find?_eq_some hf)
    have hg : L.getD n (0, 0, z) = t := by rw [List.getD_eq_getElem?_getD, List.getElem?_eq_getElem hn]; exact e
    simp only [Bool.and_eq_true, beq_iff_eq] at h1
    refine .inl ⟨n, hn, ?_, by rw [hg]; rfl⟩
    unfold mapK
    rw [hg]
    unfold spk
    rw [h1.1, h1.2]
theorem Nd.one {z : α} {L : List (Nat × Nat × α)} (h : Nd L) {m n : Nat} (hm : m < L.length) (hn : n < L.length) (e : mapK z L m = mapK z L n) : m = n := by
  have := spot_inj e
  simp only [List.getD_eq_getElem?_getD, List.getElem?_eq_getElem hm, List.getElem?_eq_getElem hn, Option.getD_some] at this
  have e1 : L[m].1 = L[n].1 ∧ L[m].2.1 = L[n].2.1 := by omega
  rcases Nat.lt_trichotomy m n with hlt | rfl | hgt
  · exact absurd e1 (List.pairwise_iff_getElem.1 h m n hm hn hlt)
  · rfl
  · exact absurd ⟨e1.1.symm, e1.2.symm⟩ (List.pairwise_iff_getElem.1 h n m hn hm hgt)
theorem get_L {P : Program} {t k e : TypeId} [ht : TMap P t k e] [TKy P k] {f : α → Dat} {z : α} [hz : TZeroV P e (f z)] {v : Value} {L : List (Nat × Nat × α)} {i j : Nat} {os : List Own} {fs : List Fact} {K : Cont} (hm : (v, MD f z L) ∈ fs)
    (hL : In64 L) (hn : Nd L) (hi : i < 1073741824) (hj : j < 1073741824) (kk : ∀ u, K u os ((u, f (lk z L i j)) :: fs)) : MapGetK P t v (spot (i : Nat) (j : Nat)) false os fs K := by
  have hkey : isKey P k (spot (i : Nat) (j : Nat)) := TKy.key ⟨by omega, by omega⟩ ⟨by omega, by omega⟩
  rcases lk_some (z := z) (L := L) (i := i) (j := j) with ⟨n, h1, h2, h3⟩ | ⟨h1, h2⟩
  · refine map_get hm (mapK_key hL) hkey n h1 h2 (fun m hm e => hn.one hm h1 (e.trans h2.symm)) fun u => ?_
    have := kk u
    rw [h3] at this; exact this
  · refine map_none hm (mapK_key hL) hkey h1 fun u => ?_
    have := kk u
    rw [h2] at this; exact this
theorem get_own_L {P : Program} {t k e : TypeId} [ht : TMap P t k e] [TKy P k] {f : α → Dat} {z : α} [hz : TZeroV P e (f z)] {v : Value} {L : List (Nat × Nat × α)} {i j : Nat} {os : List Own} {fs : List Fact} {K : Cont} (pos : Nat) (h : nthOwn os pos = some (ownMD f z v L))
    (hv : ∃ r, v = .map (some r)) (hL : In64 L) (hn : Nd L) (hi : i < 1073741824) (hj : j < 1073741824) (kk : ∀ u, K u os ((u, f (lk z L i j)) :: fs)) : MapGetK P t v (spot (i : Nat) (j : Nat)) false os fs K := by
  have hkey : isKey P k (spot (i : Nat) (j : Nat)) := TKy.key ⟨by omega, by omega⟩ ⟨by omega, by omega⟩
  refine ⟨fun G w hw => ?_⟩
  obtain ⟨r, rfl⟩ := hv
  rcases hw.own _ (nthOwn_mem h) 0 Nat.zero_lt_one with ⟨h1, _⟩ | ⟨_, _, h1, _⟩ | ⟨_, h1, _⟩ | ⟨_, _, n', k', d', he, ⟨r', es, clock, h1, h2, h3, h4, h5, h6⟩ | ⟨_, _, _, _, _, _, _, h1, _⟩⟩
  · simp [ownMD, ownM, own1] at h1
  · simp [ownMD, ownM, own1] at h1
  · simp [ownMD, ownM, own1] at h1
  · simp only [ownMD, ownM, own1, Value.map.injEq, Option.some.injEq] at h1
    subst h1
    simp only [ownMD, ownM, own1, Dat.mp.injEq] at he
    obtain ⟨rfl, rfl, rfl⟩ := he
    obtain ⟨l, hl⟩ := hkey
    have hks := mapK_key (P := P) (k := k) (z := z) hL
    have hbr : r < w.heap.size := (Array.getElem?_eq_some_iff.1 h3).1
    rcases lk_some (z := z) (L := L) (i := i) (j := j) with ⟨n, g1, g2, g3⟩ | ⟨g1, g2⟩
    · obtain ⟨u, u1, u2, cs, u3, u4⟩ := h6.2 n g1
      rw [g3] at kk
      refine ⟨u.val, _, fun w' hb => val_run ?_, kk _, hw.put ⟨cs, u3, u4⟩⟩
      have h3' : w'.heap[r]? = some (.map es clock) := (hb.block r hbr).trans h3
      have hfind : (Instr.findKey k (spot (i : Nat) (j : Nat)) es.toList).run P w' = .ok (some (n, u.val)) w' := by
        rcases ht.keyed.find w' hl es.toList (h6.keys hks) with ⟨_, q2⟩ | ⟨j', e0, q1, q2, q3⟩
        · exact absurd (u2.trans g2) (q2 u (List.mem_of_getElem? (by simpa using u1)))
        · obtain ⟨p1, p2, _⟩ := h6.get q2
          obtain rfl := hn.one (z := z) p1 g1 ((p2.symm.trans q3).trans g2.symm)
          have : es[j']? = some e0 := by simpa using q2
          rw [u1] at this
          obtain rfl := Option.some.inj this
          exact q1
      simp [Instr.lookup, run_underlying ht.und, MapKept.run_getObj_map h3', ht.keyed.check w' _ hl, hfind, Result.andThen]
    · obtain ⟨i0, zv, z1, z2, z3⟩ := hz.zero
      rw [g2] at kk
      refine ⟨zv, _, fun w' hb => val_run ?_, kk _, hw.put (z3 _ _)⟩
      have h3' : w'.heap[r]? = some (.map es clock) := (hb.block r hbr).trans h3
      have hfind : (Instr.findKey k (spot (i : Nat) (j : Nat)) es.toList).run P w' = .ok none w' := by
        rcases ht.keyed.find w' hl es.toList (h6.keys hks) with ⟨q1, _⟩ | ⟨j', e0, q1, q2, q3⟩
        · exact q1
        · obtain ⟨p1, p2, _⟩ := h6.get q2
          exact absurd (p2.symm.trans q3) (g1 j' p1)
      simp [Instr.lookup, run_underlying ht.und, MapKept.run_getObj_map h3', ht.keyed.check w' _ hl, hfind, Result.andThen, zeroValue, typeInfo, z1, z2]
  · simp [ownMD, ownM, own1] at h1
theorem mpu_K {z : α} (L : List (Nat × Nat × α)) (t : Nat × Nat × α) : mpu L.length (spk t) (mapK z L) = mapK z (L ++ [t]) := by
  funext i
  unfold mpu mapK
  by_cases h : i = L.length
  · subst h; simp [List.getD_eq_getElem?_getD]
  · rw [if_neg h]
    simp only [List.getD_eq_getElem?_getD]
    by_cases h2 : i < L.length
    · rw [List.getElem?_append_left h2]
    · rw [List.getElem?_eq_none (by omega), List.getElem?_eq_none (by simp; omega)]
theorem mpu_E {f : α → Dat} {z : α} (L : List (Nat × Nat × α)) (t : Nat × Nat × α) : mpu L.length (f t.2.2) (mapE f z L) = mapE f z (L ++ [t]) := by
  funext i
  unfold mpu mapE
  by_cases h : i = L.length
  · subst h; simp [List.getD_eq_getElem?_getD]
  · rw [if_neg h]
    simp only [List.getD_eq_getElem?_getD]
    by_cases h2 : i < L.length
    · rw [List.getElem?_append_left h2]
    · rw [List.getElem?_eq_none (by omega), List.getElem?_eq_none (by simp; omega)]
theorem set_K {z : α} {L : List (Nat × Nat × α)} {n : Nat} (hn : n < L.length) (a : α) : mapK z (L.set n ((L.getD n (0, 0, z)).1, (L.getD n (0, 0, z)).2.1, a)) = mapK z L := by
  funext i
  unfold mapK
  simp only [List.getD_eq_getElem?_getD, List.getElem?_set]
  by_cases h : n = i
  · subst h; simp [hn, spk]
  · simp [h]
theorem set_E {f : α → Dat} {z : α} {L : List (Nat × Nat × α)} {n : Nat} (hn : n < L.length) (a : α) : mapE f z (L.set n ((L.getD n (0, 0, z)).1, (L.getD n (0, 0, z)).2.1, a)) = mpu n (f a) (mapE f z L) := by
  funext i
  unfold mapE mpu
  simp only [List.getD_eq_getElem?_getD, List.getElem?_set]
  by_cases h : n = i
  · subst h; simp [hn]
  · simp [h, Ne.symm h]
theorem skip_K {z : α} {L : List (Nat × Nat × α)} (j : Nat) : skip j (mapK z L) = mapK z (L.eraseIdx j) := by
  funext i
  unfold skip mapK
  simp only [List.getD_eq_getElem?_getD, List.getElem?_eraseIdx]
  split <;> rfl
theorem skip_E {f : α → Dat} {z : α} {L : List (Nat × Nat × α)} (j : Nat) : skip j (mapE f z L) = mapE f z (L.eraseIdx j) := by
  funext i
  unfold skip mapE
  simp only [List.getD_eq_getElem?_getD, List.getElem?_eraseIdx]
  split <;> rfl
def mput (L : List (Nat × Nat × α)) (i j : Nat) (a : α) : List (Nat × Nat × α) :=
  match L.findIdx? fun t => t.1 == i && t.2.1 == j with
  | some n => L.set n (i, j, a)
  | none => L ++ [(i, j, a)]
theorem put_L {P : Program} {t k e : TypeId} [ht : TMap P t k e] [TKy P k] {f : α → Dat} {z : α} {v x : Value} {L : List (Nat × Nat × α)} {i j : Nat} (a : α) {os : List Own} {fs : List Fact} {K : Cont} (pos : Nat) (h : nthOwn os pos = some (ownMD f z v L))
    (hv : ∃ r, v = .map (some r)) (hL : In64 L) (hnd : Nd L) (hi : i < 1073741824) (hj : j < 1073741824) (hn : L.length < maxLen) (hx : Knw os fs x (f a))
    (kk : K undef (setOwn os pos (ownMD f z v (mput L i j a))) fs) : MapPutK P t v (spot (i : Nat) (j : Nat)) x os fs K := by
  have hkey : isKey P k (spot (i : Nat) (j : Nat)) := TKy.key ⟨by omega, by omega⟩ ⟨by omega, by omega⟩
  unfold mput at kk
  cases hf : L.findIdx? fun t => t.1 == i && t.2.1 == j with
  | none =>
    rw [hf] at kk
    refine map_new pos h hv (mapK_key hL) hkey (fun n hn e => ?_) hn hx ?_
    · obtain ⟨e1, e2⟩ := mapK_eq e
      have hm : L.getD n (0, 0, z) ∈ L := by rw [List.getD_eq_getElem?_getD, List.getElem?_eq_getElem hn]; exact List.getElem_mem hn
      have := List.findIdx?_eq_none_iff.1 hf _ hm
      rw [e1, e2] at this
      simp at this
    · have e1 := mpu_K (z := z) L (i, j, a)
      have e2 := mpu_E (f := f) (z := z) L (i, j, a)
      simp only at e2
      show K undef (setOwn os pos (ownM v (L.length + 1) (mpu L.length (spk (i, j, a)) (mapK z L)) (mpu L.length (f a) (mapE f z L)))) fs
      rw [e1, e2]
      simp only [ownMD, List.length_append, List.length_cons, List.length_nil] at kk
      exact kk
  | some n =>
    rw [hf] at kk
    obtain ⟨hnl, h1, _⟩ := List.findIdx?_eq_some_iff_getElem.1 hf
    simp only [Bool.and_eq_true, beq_iff_eq] at h1
    have hg : L.getD n (0, 0, z) = L[n] := by rw [List.getD_eq_getElem?_getD, List.getElem?_eq_getElem hnl]; rfl
    have hk : mapK z L n = spot (i : Nat) (j : Nat) := by unfold mapK spk; rw [hg, h1.1, h1.2]
    refine map_set pos h hv (mapK_key hL) hkey n hnl hk (fun m hm e => hnd.one hm hnl (e.trans hk.symm)) hx ?_
    have e1 := set_K (z := z) hnl a
    have e2 := set_E (f := f) (z := z) hnl a
    rw [hg, h1.1, h1.2] at e1 e2
    simp only [ownMD, List.length_set, e1, e2] at kk
    exact kk
def ownWD (f : α → Dat) (z : α) (p : Value) (L : List (Nat × Nat × α)) (c : Value) : Own := ownW p L.length (mapK z L) (mapE f z L) c
theorem make_L {P : Program} {t : TypeId} (f : α → Dat) (z : α) {os : List Own} {fs : List Fact} {K : Cont} (k : ∀ v, (∃ r, v = .map (some r)) → K v (ownMD f z v [] :: os) fs) : MapMakeK P t os fs K :=
  map_make (mapK z []) (mapE f z []) k
theorem range_L {P : Program} {t k e : TypeId} [ht : TMap P t k e] {f : α → Dat} {z : α} {v : Value} {L : List (Nat × Nat × α)} {os : List Own} {fs : List Fact} {K : Cont} (hm : (v, MD f z L) ∈ fs)
    (kk : ∀ p, isBox p → K p (ownWD f z p L (.bool false) :: os) fs) : RangeK P t v os fs K := map_range hm kk
theorem next_L {P : Program} {p : Value} {ty : TypeId} {f : α → Dat} {z : α} {L : List (Nat × Nat × α)} {c : Value} {os : List Own} {fs : List Fact} {K : Cont} (pos : Nat) (h : nthOwn os pos = some (ownWD f z p L c)) (hp : isBox p)
    (h0 : L = [] → K (.tuple #[.bool false]) os fs)
    (h1 : ∀ n i j a x, n < L.length → L[n]? = some (i, j, a) → K (.tuple #[.bool true, spot (i : Nat) (j : Nat), x]) (setOwn os pos (ownWD f z p (L.eraseIdx n) (.tuple #[spot (i : Nat) (j : Nat), x]))) ((x, f a) :: fs)) : NextK P p false ty os fs K := by
  refine walk_next pos h hp (fun e => h0 (List.eq_nil_of_length_eq_zero e)) fun n x hn => ?_
  obtain ⟨⟨i, j, a⟩, hg⟩ : ∃ t, L[n]? = some t := ⟨_, List.getElem?_eq_getElem hn⟩
  have hg' : L.getD n (0, 0, z) = (i, j, a) := by rw [List.getD_eq_getElem?_getD, hg]; rfl
  have := h1 n i j a x hn hg
  unfold ownWD at this
  rw [List.length_eraseIdx, if_pos hn, ← skip_K, ← skip_E] at this
  unfold mapK mapE spk at this ⊢
  rw [hg']
  exact this
theorem Seals.mapL {f : α → Dat} {z : α} {os : List Own} {fs : List Fact} (pos : Nat) {v : Value} {L : List (Nat × Nat × α)} (h : nthOwn os pos = some (ownMD f z v L)) (hv : ∃ r, v = .map (some r)) :
    Seals os fs (dropOwn os pos) ((v, MD f z L) :: fs) := Seals.map pos h hv
end
open Go.RowKit
class TArr2 (P : Program) (t : TypeId) : Prop where
  und : ∃ e, P.underlying t = some (.array 2 e) ∧ P.underlying e = some (.int .i64) ∧ (P.info? e).map (·.size) = some 1 ∧ P.cellsOf t = 2 ∧ P.cellsOf e = 1
  zero : ∃ i, P.info? t = some i ∧ i.zero = some (.agg #[.int .i64 0, .int .i64 0])
  kt : P.keyType t = true
  some : ∃ m, P.types.size = m + 1
theorem build_arr {P : Program} {t : TypeId} [ht : TArr2 P t] {x y : Int} {os : List Own} {fs : List Fact} {K : Cont} (k : K (spot x y) os fs) : BuildK P t [(0, .int .i64 x), (1, .int .i64 y)] os fs K := by
  obtain ⟨e, h1, h2, h3, h4, h5⟩ := ht.und
  obtain ⟨i, h7, h8⟩ := ht.zero
  refine ⟨fun _ _ hw => ⟨_, _, fun w' _ => val_run ?_, k, hw⟩⟩
  simp [Instr.build, zeroValue, typeInfo, h7, h8, run_underlying h1, run_sizeOf h3, Instr.fill, spot, show (Value.agg #[.int .i64 0, .int .i64 0]).cells = #[.int .i64 0, .int .i64 0] from rfl, show ∀ z, (Value.int .i64 z).cells = #[.int .i64 z] from fun _ => rfl]
theorem arr_key {P : Program} {k : TypeId} [ht : TArr2 P k] {x y : Int} (hx : inK .i64 x) (hy : inK .i64 y) : isKey P k (spot x y) := by
  obtain ⟨e, h1, h2, h3, h4, h5⟩ := ht.und
  obtain ⟨m, hm⟩ := ht.some
  simp only [inK] at hx hy
  have wx : (Lit.int .i64 x).wf = true := by simp [Lit.wf, IntKind.min, IntKind.max, IntKind.bits, IntKind.signed]; omega
  have wy : (Lit.int .i64 y).wf = true := by simp [Lit.wf, IntKind.min, IntKind.max, IntKind.bits, IntKind.signed]; omega
  refine ⟨.string (keyBytes [.int .i64 x, .int .i64 y]), ?_⟩
  unfold keyOf
  simp only [h1, ht.kt, spot, Value.formed, h4, Bool.true_and, List.size_toArray, List.length_cons, List.length_nil, beq_self_eq_true, if_true, hm, Value.cells]
  have e : P.keyLits (m + 1 + 1) k [.int .i64 x, .int .i64 y] = some [.int .i64 x, .int .i64 y] := by
    unfold Program.keyLits
    simp only [h1, h4, List.length_cons, List.length_nil]
    have k0 : ∀ z, (Lit.int .i64 z).wf = true → P.keyLits (m + 1) e [.int .i64 z] = some [.int .i64 z] := fun z hz => by unfold Program.keyLits; simp [h2, hz]
    have e2 : List.range 2 = [0, 1] := rfl
    simp [e2, h5, k0 x wx, k0 y wy]
  rw [e]; rfl
instance (priority := low) TArr2.ky {P : Program} {k : TypeId} [TArr2 P k] : TKy P k := ⟨arr_key⟩
theorem index_arr {P : Program} {t : TypeId} [ht : TArr2 P t] {v : Value} {kk : IntKind} {x : Int} {os : List Own} {fs : List Fact} {K : Cont} (hb : isBox v) (j : Nat) (hj : x = (j : Int)) (hlt : j < 2) (k : K (eptr v j) os fs) :
    IndexAddrK P t v (.int kk x) os fs K := by
  obtain ⟨e, h1, h2, h3, h4, h5⟩ := ht.und
  obtain ⟨r, rfl⟩ := hb
  subst hj
  refine ⟨fun _ _ hw => ⟨_, _, fun w' _ => val_run ?_, k, hw⟩⟩
  have h0 : (0 : Int) ≤ (j : Int) ∧ (j : Int) < 2 := by omega
  simp [Instr.indexAt, asIntOf, run_underlying h1, Instr.sureAddr, run_sizeOf h3, eptr, h0]
  intro h; omega
instance (priority := low) TArr2.agg {P : Program} {t : TypeId} [ht : TArr2 P t] : TAgg P t 2 := by
  obtain ⟨e, h1, h2, h3, h4, h5⟩ := ht.und
  refine ⟨⟨_, h1, rfl⟩, ?_⟩
  obtain ⟨i, h6, h7⟩ := ht.zero
  unfold Program.cellsOf at h4
  rw [h6] at h4 ⊢
  simpa using h4
open Go.RowKit
class TPlan (P : Program) (t : TypeId) : Prop where
  und : ∃ fs f0 f1 f2 f3, P.underlying t = some (.struct fs) ∧ fs = #[f0, f1, f2, f3] ∧ f0.offset = 0 ∧ f1.offset = 1 ∧ f2.offset = 2 ∧ f3.offset = 3 ∧ (P.info? f0.type).map (·.size) = some 1 ∧ (P.info? f1.type).map (·.size) = some 1 ∧ (P.info? f2.type).map (·.size) = some 1 ∧ (P.info? f3.type).map (·.size) = some 2
  zero : ∃ i, P.info? t = some i ∧ i.zero = some (.agg #[.slice none 0 0, .map none, .slice none 0 0, .bool false, .slice none 0 0])
def planZ : Value := .agg #[.slice none 0 0, .map none, .slice none 0 0, .bool false, .slice none 0 0]
theorem build_plan0 {P : Program} {t : TypeId} [ht : TPlan P t] {os : List Own} {fs : List Fact} {K : Cont} (k : K planZ os fs) : BuildK P t [] os fs K := by
  obtain ⟨_, f0, f1, f2, f3, h1, rfl, h3, h4, h5, h6, h7, h8, h9, h10⟩ := ht.und
  obtain ⟨i, k1, k2⟩ := ht.zero
  refine ⟨fun _ _ hw => ⟨_, _, fun w' _ => val_run ?_, k, hw⟩⟩
  simp [Instr.build, zeroValue, typeInfo, k1, k2, run_underlying h1, run_sizeOf h7, run_sizeOf h8, run_sizeOf h9, run_sizeOf h10, h3, h4, h5, h6, Instr.fill, Value.cells, Array.zipIdx, planZ]
theorem run_plan {P : Program} {t : TypeId} (ht : TPlan P t) {a b p q : Value} (ha : a.cells = #[a]) (hb : b.cells = #[b]) (w : World) :
    (Instr.build t #[(0, a), (1, b), (3, .agg #[p, q])]).run P w = .ok (.agg #[a, b, .slice none 0 0, p, q]) w := by
  obtain ⟨_, f0, f1, f2, f3, h1, rfl, h3, h4, h5, h6, h7, h8, h9, h10⟩ := ht.und
  obtain ⟨i, k1, k2⟩ := ht.zero
  have e1 : ∀ l, (Value.agg l).cells = l := fun _ => rfl
  simp [Instr.build, zeroValue, typeInfo, k1, k2, run_underlying h1, run_sizeOf h7, run_sizeOf h8, run_sizeOf h9, run_sizeOf h10, h3, h4, h5, h6, Instr.fill, e1, ha, hb, Array.zipIdx]
def planB (x m s : Value) (d : Dat) : Dat := .cat (.one x) (.cat (.one m) (.cat (.one s) d))
theorem one_slice {v : Value} {size n : Nat} {e : Nat → Dat} {S : Nat → Prop} {w : World} (h : Rd S w v (.sl size n e)) : ∃ a c, v = .slice a n c := by
  obtain ⟨a, c, h, _⟩ := h.sl
  exact ⟨a, c, h⟩
theorem build_plan {P : Program} {t : TypeId} [ht : TPlan P t] {x m i : Value} {size n : Nat} {e : Nat → Dat} {d1 d2 : Dat} {os : List Own} {fs : List Fact} {K : Cont} (hx : (x, .sl size n e) ∈ fs) (hm : ∃ r, m = .map (some r)) (hi : (i, .cat d1 d2) ∈ fs) (hc : d1.cells + d2.cells = 2)
    (k : ∀ v, K v os ((v, planB x m (.slice none 0 0) (.cat d1 d2)) :: fs)) : BuildK P t [(0, x), (1, m), (3, i)] os fs K := by
  refine ⟨fun G w hw => ?_⟩
  obtain ⟨r, rfl⟩ := hm
  obtain ⟨cs, a1, he⟩ := hw.facts _ hi
  obtain ⟨a, c, rfl⟩ := one_slice (hw.facts _ hx)
  have hl := RdC.length a1
  simp only [Dat.cells, hc] at hl
  match cs, hl with
  | [p, q], _ =>
    obtain rfl : i = .agg #[p, q] := he
    exact ⟨_, _, fun w' _ => val_run (run_plan ht rfl rfl w'), k _, hw.put ⟨[.slice a n c, .map (some r), .slice none 0 0, p, q], ⟨[_], [_, _, p, q], rfl, ⟨rfl, rfl⟩, ⟨[_], [_, p, q], rfl, ⟨rfl, rfl⟩, ⟨[_], [p, q], rfl, ⟨rfl, rfl⟩, a1⟩⟩⟩, rfl⟩⟩
theorem flat_up {S : Nat → Prop} {w : World} {v : Value} {d : Dat} (hd : d.flat = true) (h : Rd S w v d) : RdC S w d [v] := by
  obtain ⟨cs, h1, rfl⟩ := h
  obtain ⟨u, rfl, _, h2⟩ := RdC.single hd h1
  rw [h2]; exact h1
theorem Knw.plan {os : List Own} {fs : List Fact} {u x m s : Value} {d dx dm ds : Dat} (h : (u, planB x m s d) ∈ fs) (hx : (x, dx) ∈ fs) (hm : (m, dm) ∈ fs) (hs : (s, ds) ∈ fs) (fx : dx.flat = true) (fm : dm.flat = true) (fs' : ds.flat = true) :
    Knw os fs u (.cat dx (.cat dm (.cat ds d))) := fun G w hw => by
  obtain ⟨cs, ⟨c1, c2, rfl, ⟨rfl, _⟩, c3, c4, rfl, ⟨rfl, _⟩, c5, c6, rfl, ⟨rfl, _⟩, h1⟩, he⟩ := hw.facts _ h
  exact ⟨_, ⟨[x], _, rfl, flat_up fx (hw.facts _ hx), [m], _, rfl, flat_up fm (hw.facts _ hm), [s], c6, rfl, flat_up fs' (hw.facts _ hs), h1⟩, he⟩
theorem planB_put {x m s s' : Value} {d : Dat} (S : Nat → Prop) (w : World) (cs cs' : List Value) (h : RdC S w (planB x m s d) cs) (h' : RdC S w (.one s') cs') : RdC S w (planB x m s' d) (cs.take 2 ++ cs' ++ cs.drop (2 + cs'.length)) := by
  obtain ⟨c1, c2, rfl, ⟨rfl, a1⟩, c3, c4, rfl, ⟨rfl, a3⟩, c5, c6, rfl, ⟨rfl, a5⟩, a6⟩ := h
  obtain ⟨rfl, b⟩ := h'
  exact ⟨[x], _, rfl, ⟨rfl, a1⟩, [m], _, rfl, ⟨rfl, a3⟩, [s'], c6, rfl, ⟨rfl, b⟩, a6⟩
def kD (n : Nat) : Dat := .one (.int .i64 (n : Int))
theorem get_num {P : Program} {t k e : TypeId} [ht : TMap P t k e] [TKy P k] [hz : TZeroV P e (kD 0)] {v : Value} {L : List (Nat × Nat × Nat)} {i j : Nat} {os : List Own} {fs : List Fact} {K : Cont} (hm : (v, MD kD 0 L) ∈ fs)
    (hL : In64 L) (hn : Nd L) (hi : i < 1073741824) (hj : j < 1073741824) (kk : K (.int .i64 (lk 0 L i j : Nat)) os fs) : MapGetK P t v (spot (i : Nat) (j : Nat)) false os fs K := by
  have h := get_L (P := P) (t := t) (f := kD) (z := 0) (K := fun u os' fs' => os' = os ∧ fs' = (u, kD (lk 0 L i j)) :: fs) hm hL hn hi hj fun u => ⟨rfl, rfl⟩
  refine ⟨fun G w hw => ?_⟩
  obtain ⟨u, fs', h1, ⟨_, rfl⟩, h3⟩ := h.out G w hw
  obtain rfl := Rd.one (h3.facts _ (.head _))
  exact ⟨_, fs, h1, kk, h3.weaken_facts fun F hF => .tail _ hF⟩
theorem mput_newG {α : Type} {L : List (Nat × Nat × α)} {i j : Nat} (h : ∀ t, t ∈ L → ¬ (t.1 = i ∧ t.2.1 = j)) (a : α) : mput L i j a = L ++ [(i, j, a)] := by
  unfold mput
  rw [List.findIdx?_eq_none_iff.2 fun t ht => by
    have := h t ht
    cases hb : (t.1 == i && t.2.1 == j)
    · rfl
    · simp only [Bool.and_eq_true, beq_iff_eq] at hb; exact absurd hb this]
end Go.Proofs.YtjebljkoiaojaaaGreat
namespace Go.Proofs.YtjebljkoiaojaaaGreat
def pev : List Int → Int → Int
  | [], _ => 0
  | c :: l, x => c + x * pev l x
def nrm : List Int → List Int
  | [] => []
  | c :: l => match nrm l with
    | [] => if c = 0 then [] else [c]
    | d :: m => c :: d :: m
theorem nrm_cons (c : Int) (l : List Int) : nrm (c :: l) = if nrm l = [] ∧ c = 0 then [] else c :: nrm l := by
  rw [nrm]
  cases h : nrm l with
  | nil => by_cases hc : c = 0 <;> simp [hc]
  | cons d m => simp
theorem nrm_nrm (l : List Int) : nrm (nrm l) = nrm l := by
  induction l with
  | nil => rfl
  | cons c l ih =>
    rw [nrm_cons]
    by_cases h : nrm l = [] ∧ c = 0
    · rw [if_pos h]; rfl
    · rw [if_neg h, nrm_cons, ih, if_neg h]
theorem ev_nrm (l : List Int) (x : Int) : pev (nrm l) x = pev l x := by
  induction l with
  | nil => rfl
  | cons c l ih =>
    rw [nrm_cons]
    by_cases h : nrm l = [] ∧ c = 0
    · rw [if_pos h, h.2]
      rw [h.1] at ih
      simp only [pev] at ih ⊢
      rw [← ih]; simp
    · rw [if_neg h]; simp only [pev]; rw [ih]
theorem co_nrm (l : List Int) (i : Nat) : (nrm l).getD i 0 = l.getD i 0 := by
  induction l generalizing i with
  | nil => rfl
  | cons c l ih =>
    rw [nrm_cons]
    by_cases h : nrm l = [] ∧ c = 0
    · rw [if_pos h]
      cases i with
      | zero => simp [h.2]
      | succ i => rw [List.getD_cons_succ, ← ih i, h.1]; simp
    · rw [if_neg h]
      cases i with
      | zero => rfl
      | succ i => rw [List.getD_cons_succ, List.getD_cons_succ, ih]
theorem nrm_length_le (l : List Int) : (nrm l).length ≤ l.length := by
  induction l with
  | nil => exact Nat.le_refl _
  | cons c l ih =>
    rw [nrm_cons]
    split
    · simp
    · simp only [List.length_cons]; omega
theorem nrm_last (l : List Int) (h : 0 < (nrm l).length) : (nrm l).getD ((nrm l).length - 1) 0 ≠ 0 := by
  induction l with
  | nil => simp [nrm] at h
  | cons c l ih =>
    rw [nrm_cons] at h ⊢
    by_cases hc : nrm l = [] ∧ c = 0
    · rw [if_pos hc] at h; simp at h
    · rw [if_neg hc] at h ⊢
      cases e : nrm l with
      | nil =>
        have : c ≠ 0 := fun h0 => hc ⟨e, h0⟩
        simpa using this
      | cons d m =>
        have := ih (by rw [e]; simp)
        rw [e] at this
        simpa using this
theorem nrm_of_last {l : List Int} (h : l = [] ∨ l.getD (l.length - 1) 0 ≠ 0) : nrm l = l := by
  induction l with
  | nil => rfl
  | cons c l ih =>
    rcases h with h | h
    · simp at h
    · rw [nrm_cons]
      cases l with
      | nil =>
        have : c ≠ 0 := by simpa using h
        simp [nrm, this]
      | cons d m =>
        have h' : (d :: m).getD ((d :: m).length - 1) 0 ≠ 0 := by simpa using h
        rw [ih (.inr h')]
        simp
theorem nrm_ext : ∀ {l m : List Int}, (∀ i, l.getD i 0 = m.getD i 0) → nrm l = nrm m
  | [], [], _ => rfl
  | [], d :: m, h => by
    have h0 : d = 0 := by have := h 0; simpa using this.symm
    have h1 := nrm_ext (l := []) (m := m) fun i => by have := h (i + 1); simpa using this
    rw [nrm_cons, ← h1, if_pos ⟨rfl, h0⟩]; rfl
  | c :: l, [], h => by
    have h0 : c = 0 := by have := h 0; simpa using this
    have h1 := nrm_ext (l := l) (m := []) fun i => by have := h (i + 1); simpa using this
    rw [nrm_cons, h1, if_pos ⟨rfl, h0⟩]; rfl
  | c :: l, d :: m, h => by
    have h0 : c = d := by have := h 0; simpa using this
    have h1 := nrm_ext (l := l) (m := m) fun i => by have := h (i + 1); simpa using this
    rw [nrm_cons, nrm_cons, h1, h0]
theorem small_dvd {c k x : Int} (h : c = x * k) (hx : c.natAbs < x.natAbs) : c = 0 := by
  by_cases hk : k = 0
  · rw [h, hk, Int.mul_zero]
  · exfalso
    have h1 : c.natAbs = x.natAbs * k.natAbs := by rw [h, Int.natAbs_mul]
    have h2 : 1 ≤ k.natAbs := by omega
    have h3 : x.natAbs * 1 ≤ x.natAbs * k.natAbs := Nat.mul_le_mul_left _ h2
    omega
theorem ev_ext_great : ∀ {l m : List Int} (N : Nat), (∀ x : Int, (N : Int) ≤ x → pev l x = pev m x) → nrm l = nrm m
  | [], [], _, _ => rfl
  | [], d :: m, N, h => by
    have h0 : d = 0 := by
      have := h (N + d.natAbs + 1) (by omega)
      simp only [pev] at this
      refine small_dvd (x := (N : Int) + d.natAbs + 1) (k := - pev m ((N : Int) + d.natAbs + 1)) ?_ (by omega)
      rw [Int.mul_neg]; omega
    have h1 := ev_ext_great (l := []) (m := m) (N + 1) fun x hx => by
      have := h x (by omega)
      simp only [pev, h0] at this ⊢
      have : x * pev m x = 0 := by omega
      rcases Int.mul_eq_zero.1 this with h2 | h2
      · omega
      · exact h2.symm
    rw [nrm_cons, ← h1, if_pos ⟨rfl, h0⟩]; rfl
  | c :: l, [], N, h => by
    have h0 : c = 0 := by
      have := h (N + c.natAbs + 1) (by omega)
      simp only [pev] at this
      refine small_dvd (x := (N : Int) + c.natAbs + 1) (k := - pev l ((N : Int) + c.natAbs + 1)) ?_ (by omega)
      rw [Int.mul_neg]; omega
    have h1 := ev_ext_great (l := l) (m := []) (N + 1) fun x hx => by
      have := h x (by omega)
      simp only [pev, h0] at this ⊢
      have : x * pev l x = 0 := by omega
      rcases Int.mul_eq_zero.1 this with h2 | h2
      · omega
      · exact h2
    rw [nrm_cons, h1, if_pos ⟨rfl, h0⟩]; rfl
  | c :: l, d :: m, N, h => by
    have h0 : c - d = 0 := by
      have := h (N + (c - d).natAbs + 1) (by omega)
      simp only [pev] at this
      refine small_dvd (x := (N : Int) + (c - d).natAbs + 1) (k := pev m ((N : Int) + (c - d).natAbs + 1) - pev l ((N : Int) + (c - d).natAbs + 1)) ?_ (by omega)
      rw [Int.mul_sub]; omega
    have h1 := ev_ext_great (l := l) (m := m) (N + 1) fun x hx => by
      have := h x (by omega)
      simp only [pev] at this
      have h2 : x * (pev l x - pev m x) = 0 := by rw [Int.mul_sub]; omega
      rcases Int.mul_eq_zero.1 h2 with h3 | h3 <;> omega
    rw [nrm_cons, nrm_cons, h1, show c = d by omega]
theorem ev_ext {l m : List Int} (h : ∀ x, pev l x = pev m x) : nrm l = nrm m := ev_ext_great 0 fun x _ => h x
theorem ev_of_nrm {l m : List Int} (h : nrm l = nrm m) (x : Int) : pev l x = pev m x := by rw [← ev_nrm l, h, ev_nrm]
theorem ev_append (l m : List Int) (x : Int) : pev (l ++ m) x = pev l x + x ^ l.length * pev m x := by
  induction l with
  | nil => simp [pev]
  | cons c l ih => simp only [List.cons_append, pev, ih, List.length_cons, Int.pow_succ]; grind
theorem ev_map_mul (c : Int) (l : List Int) (x : Int) : pev (l.map fun y => c * y) x = c * pev l x := by
  induction l with
  | nil => simp [pev]
  | cons d l ih => simp only [List.map_cons, pev, ih]; grind
theorem ev_replicate (n : Nat) (x : Int) : pev (List.replicate n 0) x = 0 := by
  induction n with
  | zero => rfl
  | succ n ih => rw [List.replicate_succ, pev, ih]; simp
theorem ev_take_succ {l : List Int} {i : Nat} (h : i < l.length) (x : Int) : pev (l.take (i + 1)) x = pev (l.take i) x + x ^ i * l.getD i 0 := by
  have e : l.take (i + 1) = l.take i ++ [l.getD i 0] := by rw [List.take_add_one]; simp [List.getD_eq_getElem?_getD, h]
  rw [e, ev_append, List.length_take, Nat.min_eq_left (Nat.le_of_lt h)]
  simp [pev]
theorem ev_getD {l : List Int} {n : Nat} (h : l.length ≤ n) (x : Int) : pev ((List.range n).map fun i => l.getD i 0) x = pev l x := by
  have : nrm ((List.range n).map fun i => l.getD i 0) = nrm l := nrm_ext fun i => by
    by_cases hi : i < n
    · simp [List.getD_eq_getElem?_getD, hi]
    · have : l.length ≤ i := by omega
      simp [List.getD_eq_getElem?_getD, hi, this]
  exact ev_of_nrm this x
end Go.Proofs.YtjebljkoiaojaaaGreat
namespace Go.Proofs.YtjebljkoiaojaaaGreat
def Nm (l : List Int) : Prop := nrm l = l
theorem Nm.nil : Nm [] := rfl
theorem Nm.nrm (l : List Int) : Nm (nrm l) := nrm_nrm l
theorem Nm.ext {l m : List Int} (hl : Nm l) (hm : Nm m) (h : ∀ x, pev l x = pev m x) : l = m := by rw [← hl, ← hm]; exact ev_ext h
def lst (n : Nat) (f : Nat → Int) : List Int := (List.range n).map f
theorem lst_len (n : Nat) (f : Nat → Int) : (lst n f).length = n := by simp [lst]
theorem lst_get {n : Nat} {f : Nat → Int} {i : Nat} (h : i < n) : (lst n f).getD i 0 = f i := by simp [lst, List.getD_eq_getElem?_getD, h]
theorem lst_get' (n : Nat) (f : Nat → Int) (i : Nat) : (lst n f).getD i 0 = if i < n then f i else 0 := by
  by_cases h : i < n
  · rw [lst_get h, if_pos h]
  · rw [if_neg h, List.getD_eq_getElem?_getD, List.getElem?_eq_none (by rw [lst_len]; omega)]; rfl
theorem lst_congr {n : Nat} {f g : Nat → Int} (h : ∀ i, i < n → f i = g i) : lst n f = lst n g := List.map_congr_left fun i hi => h i (List.mem_range.1 hi)
theorem mem_lst {n : Nat} {f : Nat → Int} {x : Int} (h : x ∈ lst n f) : ∃ i, i < n ∧ x = f i := by
  obtain ⟨i, h1, h2⟩ := List.mem_map.1 h
  exact ⟨i, List.mem_range.1 h1, h2.symm⟩
theorem lst_succ (n : Nat) (f : Nat → Int) : lst (n + 1) f = f 0 :: lst n fun i => f (i + 1) := by
  simp [lst, List.range_succ_eq_map, Function.comp_def]
theorem getD_none {l : List Int} {i : Nat} (h : l.length ≤ i) : l.getD i 0 = 0 := by rw [List.getD_eq_getElem?_getD, List.getElem?_eq_none h]; rfl
theorem ev_lst_succ (n : Nat) (f : Nat → Int) (x : Int) : pev (lst (n + 1) f) x = f 0 + x * pev (lst n fun i => f (i + 1)) x := by rw [lst_succ]; rfl
theorem ev_lst_add (n : Nat) (f g : Nat → Int) (x : Int) : pev (lst n fun i => f i + g i) x = pev (lst n f) x + pev (lst n g) x := by
  induction n generalizing f g with
  | zero => rfl
  | succ n ih => rw [ev_lst_succ, ev_lst_succ, ev_lst_succ, ih]; grind
theorem ev_lst_mul (n : Nat) (c : Int) (f : Nat → Int) (x : Int) : pev (lst n fun i => c * f i) x = c * pev (lst n f) x := by
  induction n generalizing f with
  | zero => simp [lst, pev]
  | succ n ih => rw [ev_lst_succ, ev_lst_succ, ih]; grind
theorem ev_lst_zero (n : Nat) (x : Int) : pev (lst n fun _ => 0) x = 0 := by
  induction n with
  | zero => rfl
  | succ n ih => rw [ev_lst_succ, ih]; simp
theorem ev_lst {l : List Int} {n : Nat} (h : l.length ≤ n) (x : Int) : pev (lst n fun i => l.getD i 0) x = pev l x := ev_getD h x
def up (s : Nat) (l : List Int) : List Int := List.replicate s 0 ++ l
theorem ev_up (s : Nat) (l : List Int) (x : Int) : pev (up s l) x = x ^ s * pev l x := by
  rw [up, ev_append, ev_replicate, List.length_replicate]; simp
theorem up_len (s : Nat) (l : List Int) : (up s l).length = s + l.length := by simp [up]
theorem up_get (s : Nat) (l : List Int) (i : Nat) : (up s l).getD i 0 = if i < s then 0 else l.getD (i - s) 0 := by
  unfold up
  by_cases h : i < s
  · rw [if_pos h, List.getD_eq_getElem?_getD, List.getElem?_append_left (by simpa using h)]; simp [h]
  · rw [if_neg h, List.getD_eq_getElem?_getD, List.getElem?_append_right (by simpa using Nat.le_of_not_lt h)]; simp [List.getD_eq_getElem?_getD]
theorem up_lst (s n : Nat) (f : Nat → Int) : up s (lst n f) = lst (s + n) fun i => if i < s then 0 else f (i - s) := by
  refine List.ext_getElem? fun i => ?_
  by_cases h : i < s + n
  · rw [List.getElem?_eq_getElem (by rw [up_len, lst_len]; exact h), List.getElem?_eq_getElem (by rw [lst_len]; exact h)]
    have h1 := up_get s (lst n f) i
    have h2 := lst_get (n := s + n) (f := fun i => if i < s then 0 else f (i - s)) h
    rw [List.getD_eq_getElem?_getD, List.getElem?_eq_getElem (by rw [up_len, lst_len]; exact h)] at h1
    rw [List.getD_eq_getElem?_getD, List.getElem?_eq_getElem (by rw [lst_len]; exact h)] at h2
    simp only [Option.getD_some] at h1 h2
    rw [h1, h2]
    by_cases hs : i < s
    · simp [hs]
    · simp only [hs, if_false]; rw [lst_get (by omega)]
  · rw [List.getElem?_eq_none (by rw [up_len, lst_len]; omega), List.getElem?_eq_none (by rw [lst_len]; omega)]
def padd (l m : List Int) : List Int := nrm (lst (max l.length m.length) fun i => l.getD i 0 + m.getD i 0)
def psub (l m : List Int) : List Int := nrm (lst (max l.length m.length) fun i => l.getD i 0 - m.getD i 0)
def ptim (c : Int) (l : List Int) : List Int := nrm (l.map fun y => c * y)
def prai (c : Int) (s : Nat) (l : List Int) : List Int := nrm (up s (l.map fun y => c * y))
theorem ev_padd (l m : List Int) (x : Int) : pev (padd l m) x = pev l x + pev m x := by
  rw [padd, ev_nrm, ev_lst_add, ev_lst (Nat.le_max_left _ _), ev_lst (Nat.le_max_right _ _)]
theorem ev_psub (l m : List Int) (x : Int) : pev (psub l m) x = pev l x - pev m x := by
  have e : (fun i => l.getD i 0 - m.getD i 0) = fun i => l.getD i 0 + (-1) * m.getD i 0 := funext fun i => by omega
  rw [psub, ev_nrm, e, ev_lst_add, ev_lst_mul, ev_lst (Nat.le_max_left _ _), ev_lst (Nat.le_max_right _ _)]; omega
theorem ev_ptim (c : Int) (l : List Int) (x : Int) : pev (ptim c l) x = c * pev l x := by rw [ptim, ev_nrm, ev_map_mul]
theorem ev_prai (c : Int) (s : Nat) (l : List Int) (x : Int) : pev (prai c s l) x = x ^ s * (c * pev l x) := by rw [prai, ev_nrm, ev_up, ev_map_mul]
theorem ev_lst_isum (n m : Nat) (f : Nat → Nat → Int) (x : Int) : pev (lst n fun y => isum (fun t => f t y) m) x = isum (fun t => pev (lst n (f t)) x) m := by
  induction m with
  | zero => exact ev_lst_zero n x
  | succ m ih => simp only [isum]; rw [ev_lst_add, ih]
theorem ev_isum (l : List Int) (x : Int) : pev l x = isum (fun i => l.getD i 0 * x ^ i) l.length := by
  have : ∀ (l : List Int), pev l x = isum (fun i => l.getD i 0 * x ^ i) l.length := by
    intro l
    have h : ∀ n, n ≤ l.length → pev (l.take n) x = isum (fun i => l.getD i 0 * x ^ i) n := by
      intro n
      induction n with
      | zero => intro _; rfl
      | succ n ih => intro hn; rw [ev_take_succ (by omega), ih (by omega), isum, Int.mul_comm]
    have := h l.length (Nat.le_refl _)
    rwa [List.take_length] at this
  exact this l
def conv (a b : List Int) (m y : Nat) : Int := isum (fun t => if t ≤ y then a.getD t 0 * b.getD (y - t) 0 else 0) m
def pmul (l m : List Int) : List Int :=
  let a := nrm l
  let b := nrm m
  if a = [] ∨ b = [] then [] else nrm (lst (a.length + b.length - 1) fun y => conv a b a.length y)
theorem ev_shifted (b : List Int) (t n : Nat) (h : t + b.length ≤ n) (c x : Int) : pev (lst n fun y => if t ≤ y then c * b.getD (y - t) 0 else 0) x = c * x ^ t * pev b x := by
  have e : pev (lst n fun y => if t ≤ y then c * b.getD (y - t) 0 else 0) x = pev (up t (b.map fun y => c * y)) x := by
    refine ev_of_nrm (nrm_ext fun i => ?_) x
    rw [up_get, lst_get']
    by_cases h1 : i < t
    · rw [if_pos h1, if_neg (by omega : ¬ t ≤ i)]; split <;> rfl
    · rw [if_neg h1]
      by_cases h2 : i < n
      · rw [if_pos h2, if_pos (by omega)]
        simp [List.getD_eq_getElem?_getD]
        cases b[i - t]? <;> simp
      · rw [if_neg h2, getD_none]; rw [List.length_map]; omega
  rw [e, ev_up, ev_map_mul]; grind
theorem ev_conv (a b : List Int) (x : Int) (hb : b ≠ []) (ha : a ≠ []) : pev (lst (a.length + b.length - 1) fun y => conv a b a.length y) x = pev a x * pev b x := by
  unfold conv
  rw [ev_lst_isum]
  have h : ∀ t, t < a.length → pev (lst (a.length + b.length - 1) fun y => if t ≤ y then a.getD t 0 * b.getD (y - t) 0 else 0) x = pev b x * (a.getD t 0 * x ^ t) := fun t ht => by
    rw [ev_shifted b t _ (by have := List.length_pos_iff.2 hb; omega)]; grind
  rw [isum_congr h, isum_mul, ← ev_isum, Int.mul_comm]
theorem ev_pmul (l m : List Int) (x : Int) : pev (pmul l m) x = pev l x * pev m x := by
  unfold pmul
  simp only
  split
  · rename_i h
    rcases h with h | h
    · rw [← ev_nrm l, h]; simp [pev]
    · rw [← ev_nrm m, h]; simp [pev]
  · rename_i h
    rw [ev_nrm, ev_conv _ _ _ (fun e => h (.inr e)) (fun e => h (.inl e)), ev_nrm, ev_nrm]
theorem padd_nm (l m : List Int) : Nm (padd l m) := nrm_nrm _
theorem psub_nm (l m : List Int) : Nm (psub l m) := nrm_nrm _
theorem ptim_nm (c : Int) (l : List Int) : Nm (ptim c l) := nrm_nrm _
theorem prai_nm (c : Int) (s : Nat) (l : List Int) : Nm (prai c s l) := nrm_nrm _
theorem pmul_nm (l m : List Int) : Nm (pmul l m) := by unfold pmul; simp only; split; exact rfl; exact nrm_nrm _
end Go.Proofs.YtjebljkoiaojaaaGreat
namespace Go.Proofs.YtjebljkoiaojaaaGreat
def dg (l : List Int) : Nat := (nrm l).length
def ld (l : List Int) : Int := l.getD (dg l - 1) 0
theorem co_ext {l m : List Int} (h : ∀ x, pev l x = pev m x) (i : Nat) : l.getD i 0 = m.getD i 0 := by rw [← co_nrm l, ev_ext h, co_nrm]
theorem dg_ext {l m : List Int} (h : ∀ x, pev l x = pev m x) : dg l = dg m := by unfold dg; rw [ev_ext h]
theorem ld_ext {l m : List Int} (h : ∀ x, pev l x = pev m x) : ld l = ld m := by unfold ld; rw [dg_ext h, co_ext h]
theorem dg_nm {l : List Int} (h : Nm l) : dg l = l.length := by unfold dg; rw [h]
theorem dg_le {l : List Int} {n : Nat} : dg l ≤ n ↔ ∀ i, n ≤ i → l.getD i 0 = 0 := by
  constructor
  · intro h i hi
    rw [← co_nrm]
    exact getD_none (Nat.le_trans h hi)
  · intro h
    refine Nat.le_of_not_lt fun hn => ?_
    have := nrm_last l (show 0 < (nrm l).length by unfold dg at hn; omega)
    rw [co_nrm] at this
    exact this (h _ (by unfold dg at hn; omega))
theorem dg_le_len (l : List Int) : dg l ≤ l.length := nrm_length_le l
theorem ld_ne {l : List Int} (h : 0 < dg l) : ld l ≠ 0 := by
  have := nrm_last l h
  rwa [co_nrm] at this
theorem dg_zero {l : List Int} : dg l = 0 ↔ ∀ x, pev l x = 0 := by
  constructor
  · intro h x
    rw [← ev_nrm, List.length_eq_zero_iff.1 h]; rfl
  · intro h
    have := dg_ext (l := l) (m := []) fun x => by rw [h]; rfl
    rw [this]; rfl
theorem dg_pos {l : List Int} (h : ¬ ∀ x, pev l x = 0) : 0 < dg l := Nat.pos_of_ne_zero fun e => h (dg_zero.1 e)
theorem co_psub (l m : List Int) (i : Nat) : (psub l m).getD i 0 = l.getD i 0 - m.getD i 0 := by
  rw [psub, co_nrm, lst_get']
  split
  · rfl
  · rw [getD_none (by omega), getD_none (by omega)]; rfl
theorem co_padd (l m : List Int) (i : Nat) : (padd l m).getD i 0 = l.getD i 0 + m.getD i 0 := by
  rw [padd, co_nrm, lst_get']
  split
  · rfl
  · rw [getD_none (by omega), getD_none (by omega)]; rfl
theorem co_map (c : Int) (l : List Int) (i : Nat) : (l.map fun y => c * y).getD i 0 = c * l.getD i 0 := by
  simp only [List.getD_eq_getElem?_getD, List.getElem?_map]
  cases l[i]? <;> simp
theorem co_prai (c : Int) (s : Nat) (l : List Int) (i : Nat) : (prai c s l).getD i 0 = if i < s then 0 else c * l.getD (i - s) 0 := by
  rw [prai, co_nrm, up_get]
  split
  · rfl
  · rw [co_map]
theorem co_ptim (c : Int) (l : List Int) (i : Nat) : (ptim c l).getD i 0 = c * l.getD i 0 := by rw [ptim, co_nrm, co_map]
theorem pmul_dg {a b : List Int} (ha : 0 < dg a) (hb : 0 < dg b) : dg (pmul a b) + 1 = dg a + dg b ∧ ld (pmul a b) = ld a * ld b := by
  have ea : ld a = (nrm a).getD ((nrm a).length - 1) 0 := by rw [co_nrm]; rfl
  have eb : ld b = (nrm b).getD ((nrm b).length - 1) 0 := by rw [co_nrm]; rfl
  have h1 : ¬ (nrm a = [] ∨ nrm b = []) := by
    unfold dg at ha hb
    rintro (h | h)
    · rw [h] at ha; simp at ha
    · rw [h] at hb; simp at hb
  have hn : (lst ((nrm a).length + (nrm b).length - 1) fun y => conv (nrm a) (nrm b) (nrm a).length y).getD ((nrm a).length + (nrm b).length - 1 - 1) 0 = ld a * ld b := by
    unfold dg at ha hb
    rw [lst_get (by omega), conv, isum_one (r := (nrm a).length - 1) (by omega) fun k hk hne => by
      split
      · rw [getD_none (l := nrm b) (by omega), Int.mul_zero]
      · rfl]
    rw [if_pos (by omega), ea, eb]
    congr 2; omega
  have hne : ld a * ld b ≠ 0 := Int.mul_ne_zero (ld_ne ha) (ld_ne hb)
  have e : pmul a b = lst ((nrm a).length + (nrm b).length - 1) fun y => conv (nrm a) (nrm b) (nrm a).length y := by
    unfold pmul
    simp only
    rw [if_neg h1]
    refine nrm_of_last (.inr ?_)
    rw [lst_len, hn]; exact hne
  have hd : dg (pmul a b) = (nrm a).length + (nrm b).length - 1 := by
    rw [dg_nm (pmul_nm a b), e, lst_len]
  refine ⟨by rw [hd]; unfold dg at ha hb ⊢; omega, ?_⟩
  unfold ld
  rw [hd, e, hn]
  rfl
theorem mul_dg {a b c : List Int} (h : ∀ x, pev c x = pev a x * pev b x) (ha : 0 < dg a) (hb : 0 < dg b) : dg c + 1 = dg a + dg b ∧ ld c = ld a * ld b := by
  have e : ∀ x, pev c x = pev (pmul a b) x := fun x => by rw [h, ev_pmul]
  rw [dg_ext e, ld_ext e]
  exact pmul_dg ha hb
theorem mul_zero' {a b : List Int} (h : ∀ x, pev a x * pev b x = 0) : dg a = 0 ∨ dg b = 0 := by
  by_cases ha : 0 < dg a
  · by_cases hb : 0 < dg b
    · exfalso
      have h1 := (pmul_dg ha hb).1
      have h2 : dg (pmul a b) = 0 := dg_zero.2 fun x => by rw [ev_pmul, h]
      omega
    · right; omega
  · left; omega
theorem cancel {a u v : List Int} (ha : 0 < dg a) (h : ∀ x, pev a x * pev u x = pev a x * pev v x) (x : Int) : pev u x = pev v x := by
  have h1 : ∀ x, pev a x * pev (psub u v) x = 0 := fun x => by rw [ev_psub, Int.mul_sub, h]; omega
  rcases mul_zero' h1 with h2 | h2
  · omega
  · have := dg_zero.1 h2 x
    rw [ev_psub] at this; omega
def Dv (a b : List Int) : Prop := ∃ u, ∀ x, pev b x = pev a x * pev u x
theorem Dv.refl (a : List Int) : Dv a a := ⟨[1], fun x => by simp [pev]⟩
theorem Dv.trans {a b c : List Int} (h : Dv a b) (k : Dv b c) : Dv a c := by
  obtain ⟨u, hu⟩ := h; obtain ⟨v, hv⟩ := k
  exact ⟨pmul u v, fun x => by rw [hv, hu, ev_pmul]; grind⟩
theorem Dv.zero (a : List Int) {b : List Int} (h : ∀ x, pev b x = 0) : Dv a b := ⟨[], fun x => by rw [h]; simp [pev]⟩
theorem Dv.mul_right {a b c d : List Int} (h : Dv a b) (e : ∀ x, pev d x = pev b x * pev c x) : Dv a d := by
  obtain ⟨u, hu⟩ := h
  exact ⟨pmul u c, fun x => by rw [e, hu, ev_pmul]; grind⟩
theorem Dv.add {a b c d : List Int} (h : Dv a b) (k : Dv a c) (e : ∀ x, pev d x = pev b x + pev c x) : Dv a d := by
  obtain ⟨u, hu⟩ := h; obtain ⟨v, hv⟩ := k
  exact ⟨padd u v, fun x => by rw [e, hu, hv, ev_padd]; grind⟩
theorem Dv.sub {a b c d : List Int} (h : Dv a b) (k : Dv a c) (e : ∀ x, pev d x = pev b x - pev c x) : Dv a d := by
  obtain ⟨u, hu⟩ := h; obtain ⟨v, hv⟩ := k
  exact ⟨psub u v, fun x => by rw [e, hu, hv, ev_psub]; grind⟩
theorem Dv.ext {a b c d : List Int} (h : Dv a b) (h1 : ∀ x, pev a x = pev c x) (h2 : ∀ x, pev b x = pev d x) : Dv c d := by
  obtain ⟨u, hu⟩ := h
  exact ⟨u, fun x => by rw [← h2, hu, h1]⟩
theorem Dv.deg {a b : List Int} (h : Dv a b) (hb : 0 < dg b) : 0 < dg a ∧ dg a ≤ dg b := by
  obtain ⟨u, hu⟩ := h
  have ha : 0 < dg a := dg_pos fun h => by
    have := (dg_zero (l := b)).2 fun x => by rw [hu, h]; simp
    omega
  have h2 : 0 < dg u := dg_pos fun h => by
    have := (dg_zero (l := b)).2 fun x => by rw [hu, h]; simp
    omega
  have := (mul_dg hu ha h2).1
  exact ⟨ha, by omega⟩
theorem red_dg {p q : List Int} (hq : 0 < dg q) (hp : dg q ≤ dg p) : dg (psub (prai (ld q) 0 p) (prai (ld p) (dg p - dg q) q)) < dg p := by
  have : dg (psub (prai (ld q) 0 p) (prai (ld p) (dg p - dg q) q)) ≤ dg p - 1 := dg_le.2 fun i hi => by
    rw [co_psub, co_prai, co_prai, if_neg (by omega), if_neg (by omega), Nat.sub_zero]
    by_cases h : i = dg p - 1
    · rw [h, show dg p - 1 - (dg p - dg q) = dg q - 1 by omega]
      show ld q * ld p - ld p * ld q = 0
      grind
    · rw [dg_le.1 (Nat.le_refl (dg p)) i (by omega), dg_le.1 (Nat.le_refl (dg q)) (i - (dg p - dg q)) (by omega)]; simp
  omega
theorem pseudo {q : List Int} (hq : 0 < dg q) : ∀ (n : Nat) (p : List Int), dg p ≤ n → ∃ t r, dg r < dg q ∧ ∀ x, ld q ^ (n + 1 - dg q) * pev p x = pev q x * pev t x + pev r x
  | 0, p, hp => ⟨[], p, by omega, fun x => by rw [show 0 + 1 - dg q = 0 by omega]; simp [pev]⟩
  | n + 1, p, hp => by
    by_cases h : dg p < dg q
    · refine ⟨[], ptim (ld q ^ (n + 1 + 1 - dg q)) p, ?_, fun x => by rw [ev_ptim]; simp [pev]⟩
      refine Nat.lt_of_le_of_lt (dg_le.2 fun i hi => ?_) h
      rw [co_ptim, dg_le.1 (Nat.le_refl _) i hi, Int.mul_zero]
    · have h1 := red_dg hq (Nat.le_of_not_lt h)
      obtain ⟨t, r, h2, h3⟩ := pseudo hq n _ (show dg (psub (prai (ld q) 0 p) (prai (ld p) (dg p - dg q) q)) ≤ n by omega)
      refine ⟨padd t (prai (ld q ^ (n + 1 - dg q) * ld p) (dg p - dg q) [1]), r, h2, fun x => ?_⟩
      have h4 := h3 x
      rw [ev_psub, ev_prai, ev_prai] at h4
      rw [ev_padd, ev_prai, show n + 1 + 1 - dg q = (n + 1 - dg q) + 1 by omega, Int.pow_succ]
      simp only [pev, Int.pow_zero] at h4 ⊢
      grind
def cont (l : List Int) : Nat := l.foldr (fun c g => Nat.gcd c.natAbs g) 0
theorem dvd_cont {k : Nat} {l : List Int} : k ∣ cont l ↔ ∀ i, (k : Int) ∣ l.getD i 0 := by
  induction l with
  | nil => exact ⟨fun _ i => by simp, fun _ => Nat.dvd_zero k⟩
  | cons c l ih =>
    show k ∣ Nat.gcd c.natAbs (cont l) ↔ _
    rw [Nat.dvd_gcd_iff, ih]
    constructor
    · rintro ⟨h1, h2⟩ i
      cases i with
      | zero => exact Int.ofNat_dvd_left.2 h1
      | succ i => simpa using h2 i
    · intro h
      exact ⟨Int.ofNat_dvd_left.1 (by simpa using h 0), fun i => by simpa using h (i + 1)⟩
theorem cont_ext {l m : List Int} (h : ∀ x, pev l x = pev m x) : cont l = cont m :=
  Nat.dvd_antisymm (dvd_cont.2 fun i => by rw [← co_ext h]; exact dvd_cont.1 (Nat.dvd_refl _) i) (dvd_cont.2 fun i => by rw [co_ext h]; exact dvd_cont.1 (Nat.dvd_refl _) i)
theorem cont_zero {l : List Int} : cont l = 0 ↔ dg l = 0 := by
  constructor
  · intro h
    have := dvd_cont.1 (show 0 ∣ cont l from ⟨0, by omega⟩)
    refine Nat.eq_zero_of_not_pos fun hp => ld_ne hp ?_
    exact Int.zero_dvd.1 (this _)
  · intro h
    refine Nat.eq_zero_of_zero_dvd (dvd_cont.2 fun i => ?_)
    rw [dg_le.1 (Nat.le_of_eq h) i (Nat.zero_le i)]; exact ⟨0, by simp⟩
theorem cont_map (c : Int) (l : List Int) : cont (l.map fun y => c * y) = c.natAbs * cont l := by
  induction l with
  | nil => rfl
  | cons d l ih =>
    show Nat.gcd (c * d).natAbs (cont _) = c.natAbs * Nat.gcd d.natAbs (cont l)
    rw [ih, Int.natAbs_mul, Nat.gcd_mul_left]
theorem cont_mul {l m : List Int} {c : Int} (h : ∀ x, pev m x = c * pev l x) : cont m = c.natAbs * cont l := by
  rw [← cont_map]; exact cont_ext fun x => by rw [h, ev_map_mul]
theorem by_const {k : Nat} {l : List Int} (h : k ∣ cont l) : ∃ u, ∀ x, pev l x = k * pev u x := by
  refine ⟨l.map fun y => y / k, fun x => ?_⟩
  rw [← ev_map_mul]
  congr 1
  rw [List.map_map]
  have : ∀ y, y ∈ l → y = ((fun y => (k : Int) * y) ∘ fun y => y / k) y := fun y hy => by
    obtain ⟨i, hi, rfl⟩ := List.mem_iff_getElem.1 hy
    have := dvd_cont.1 h i
    rw [List.getD_eq_getElem?_getD, List.getElem?_eq_getElem hi] at this
    exact (Int.mul_ediv_cancel' this).symm
  exact (List.map_id l).symm.trans (List.map_congr_left this)
theorem prim_exists {l : List Int} (h : 0 < dg l) : ∃ u, cont u = 1 ∧ ∀ x, pev l x = cont l * pev u x := by
  obtain ⟨u, hu⟩ := by_const (Nat.dvd_refl (cont l))
  refine ⟨u, ?_, hu⟩
  have h1 := cont_mul hu
  rw [Int.natAbs_natCast] at h1
  have h2 : cont l ≠ 0 := fun e => by have := cont_zero.1 e; omega
  exact Nat.eq_of_mul_eq_mul_left (Nat.pos_of_ne_zero h2) (by omega)
def tail (l : List Int) : List Int := psub l (prai (ld l) (dg l - 1) [1])
theorem tail_dg {l : List Int} (h : 0 < dg l) : dg (tail l) < dg l := by
  have : dg (tail l) ≤ dg l - 1 := dg_le.2 fun i hi => by
    rw [tail, co_psub, co_prai, if_neg (by omega)]
    by_cases e : i = dg l - 1
    · rw [e, Nat.sub_self]; simp [ld]
    · rw [dg_le.1 (Nat.le_refl (dg l)) i (by omega), getD_none (l := [1]) (by simp; omega)]; simp
  omega
theorem tail_ev (l : List Int) (x : Int) : pev l x = pev (tail l) x + ld l * x ^ (dg l - 1) := by
  rw [tail, ev_psub, ev_prai]; simp only [pev]; grind
theorem gauss : ∀ (n : Nat) (a b c : List Int), dg a + dg b ≤ n → (∀ x, pev c x = pev a x * pev b x) → cont c = cont a * cont b := by
  intro n
  induction n with
  | zero =>
    intro a b c hn h
    have h1 : dg a = 0 := by omega
    have h2 : dg c = 0 := dg_zero.2 fun x => by rw [h, dg_zero.1 h1]; simp
    rw [cont_zero.2 h1, cont_zero.2 h2]; simp
  | succ n ih =>
    intro a b c hn h
    by_cases ha : dg a = 0
    · have h2 : dg c = 0 := dg_zero.2 fun x => by rw [h, dg_zero.1 ha]; simp
      rw [cont_zero.2 ha, cont_zero.2 h2]; simp
    by_cases hb : dg b = 0
    · have h2 : dg c = 0 := dg_zero.2 fun x => by rw [h, dg_zero.1 hb]; simp
      rw [cont_zero.2 hb, cont_zero.2 h2]; simp
    obtain ⟨a1, ha1, ea⟩ := prim_exists (Nat.pos_of_ne_zero ha)
    obtain ⟨b1, hb1, eb⟩ := prim_exists (Nat.pos_of_ne_zero hb)
    have hca : cont a ≠ 0 := fun e => ha (cont_zero.1 e)
    have hcb : cont b ≠ 0 := fun e => hb (cont_zero.1 e)
    have hda : 0 < dg a1 := dg_pos fun e => ha (dg_zero.2 fun x => by rw [ea, e]; simp)
    have hdb : 0 < dg b1 := dg_pos fun e => hb (dg_zero.2 fun x => by rw [eb, e]; simp)
    have da : dg a1 ≤ dg a := ((show Dv a1 a from ⟨[(cont a : Int)], fun x => by rw [ea]; simp only [pev]; grind⟩).deg (by omega)).2
    have db : dg b1 ≤ dg b := ((show Dv b1 b from ⟨[(cont b : Int)], fun x => by rw [eb]; simp only [pev]; grind⟩).deg (by omega)).2
    have key : cont (pmul a1 b1) = 1 := by
      have hk : ∀ (u v : List Int), dg u + dg v ≤ n + 1 → cont u = 1 → cont v = 1 → 0 < dg u → Nat.gcd (cont (pmul u v)) (ld u).natAbs = 1 := fun u v hl hu hv hd => by
        have t := tail_dg hd
        have e1 := ih (tail u) v (pmul (tail u) v) (by omega) (ev_pmul _ _)
        rw [hv, Nat.mul_one] at e1
        have g1 : Nat.gcd (cont (pmul u v)) (ld u).natAbs ∣ cont (tail u) := by
          rw [← e1]
          refine dvd_cont.2 fun i => ?_
          have e2 : ∀ x, pev (pmul (tail u) v) x = pev (psub (pmul u v) (prai (ld u) (dg u - 1) v)) x := fun x => by
            rw [ev_pmul, ev_psub, ev_pmul, ev_prai, tail_ev u x]; grind
          rw [co_ext e2, co_psub, co_prai]
          refine Int.dvd_sub (Int.dvd_trans (Int.natCast_dvd_natCast.2 (Nat.gcd_dvd_left _ _)) (dvd_cont.1 (Nat.dvd_refl _) i)) ?_
          split
          · exact ⟨0, by simp⟩
          · exact Int.dvd_trans (Int.ofNat_dvd_left.2 (Nat.gcd_dvd_right _ _)) ⟨_, rfl⟩
        have g2 : Nat.gcd (cont (pmul u v)) (ld u).natAbs ∣ cont u := by
          refine dvd_cont.2 fun i => ?_
          have e3 : ∀ x, pev u x = pev (padd (tail u) (prai (ld u) (dg u - 1) [1])) x := fun x => by
            rw [ev_padd, ev_prai, tail_ev u x]; simp only [pev]; grind
          rw [co_ext e3, co_padd, co_prai]
          refine Int.dvd_add (dvd_cont.1 g1 i) ?_
          split
          · exact ⟨0, by simp⟩
          · exact Int.dvd_trans (Int.ofNat_dvd_left.2 (Nat.gcd_dvd_right _ _)) ⟨_, rfl⟩
        rw [hu] at g2
        exact Nat.dvd_one.1 g2
      have k1 := hk a1 b1 (by omega) ha1 hb1 hda
      have k2 := hk b1 a1 (by omega) hb1 ha1 hdb
      have e4 : cont (pmul b1 a1) = cont (pmul a1 b1) := cont_ext fun x => by rw [ev_pmul, ev_pmul, Int.mul_comm]
      rw [e4] at k2
      have h5 : (cont (pmul a1 b1) : Int) ∣ ld a1 * ld b1 := by
        rw [← (pmul_dg hda hdb).2]
        exact dvd_cont.1 (Nat.dvd_refl _) _
      have h6 : cont (pmul a1 b1) ∣ (ld a1).natAbs * (ld b1).natAbs := by rw [← Int.natAbs_mul]; exact Int.ofNat_dvd_left.1 h5
      have h7 : cont (pmul a1 b1) ∣ (ld b1).natAbs := Nat.Coprime.dvd_of_dvd_mul_left k1 h6
      have h8 : Nat.gcd (cont (pmul a1 b1)) (ld b1).natAbs = cont (pmul a1 b1) := Nat.gcd_eq_left h7
      omega
    have e5 : ∀ x, pev c x = ((cont a * cont b : Nat) : Int) * pev (pmul a1 b1) x := fun x => by
      rw [h, ea, eb, ev_pmul]; push_cast; grind
    rw [cont_mul e5, key, Int.natAbs_natCast, Nat.mul_one]
theorem cont_prod {a b c : List Int} (h : ∀ x, pev c x = pev a x * pev b x) : cont c = cont a * cont b := gauss _ a b c (Nat.le_refl _) h
theorem Dv.prim {a b : List Int} {k : Int} (ha : cont a = 1) (hk : k ≠ 0) (h : Dv a (b.map fun y => k * y)) : Dv a b := by
  obtain ⟨u, hu⟩ := h
  have h1 := cont_prod hu
  rw [ha, Nat.one_mul, cont_map] at h1
  obtain ⟨v, hv⟩ := by_const (k := k.natAbs) (l := u) ⟨cont b, by rw [h1]⟩
  have h2 : ∀ x, k * pev b x = pev a x * (k.natAbs * pev v x) := fun x => by rw [← hv, ← hu, ev_map_mul]
  refine ⟨v.map fun y => (k.sign) * y, fun x => ?_⟩
  rw [ev_map_mul]
  have h3 := h2 x
  have h4 : (k.natAbs : Int) = k * k.sign := by rw [Int.mul_sign_self]
  rw [h4] at h3
  refine Int.eq_of_mul_eq_mul_left hk ?_
  rw [h3]; grind
theorem Dv.cnt {a b : List Int} (h : Dv a b) : cont a ∣ cont b := by
  obtain ⟨u, hu⟩ := h
  exact ⟨_, cont_prod hu⟩
end Go.Proofs.YtjebljkoiaojaaaGreat
namespace Go.Proofs.YtjebljkoiaojaaaGreat
def Gc (g p q : List Int) : Prop := Dv g p ∧ Dv g q ∧ (∀ h, Dv h p → Dv h q → Dv h g) ∧ 0 ≤ ld g
theorem const_ev {u : List Int} (h : dg u ≤ 1) (x : Int) : pev u x = u.getD 0 0 := by
  have : nrm u = nrm [u.getD 0 0] := nrm_ext fun i => by
    cases i with
    | zero => rfl
    | succ i => rw [dg_le.1 h (i + 1) (by omega)]; rfl
  rw [ev_of_nrm this]; simp [pev]
def scont (l : List Int) : Int := if ld l < 0 then - (cont l : Int) else cont l
def pprim (l : List Int) : List Int := nrm ((nrm l).map fun y => y / scont l)
theorem scont_natAbs (l : List Int) : (scont l).natAbs = cont l := by
  unfold scont; split <;> omega
theorem pprim_ev (l : List Int) (x : Int) : pev l x = scont l * pev (pprim l) x := by
  rw [pprim, ev_nrm, ← ev_map_mul, List.map_map]
  rw [← ev_nrm l]
  congr 1
  have : ∀ y, y ∈ nrm l → y = ((fun y => scont l * y) ∘ fun y => y / scont l) y := fun y hy => by
    obtain ⟨i, hi, rfl⟩ := List.mem_iff_getElem.1 hy
    have h1 := dvd_cont.1 (Nat.dvd_refl (cont l)) i
    rw [← co_nrm, List.getD_eq_getElem?_getD, List.getElem?_eq_getElem hi] at h1
    have h2 : scont l ∣ (nrm l)[i] := by
      rw [← Int.natAbs_dvd, scont_natAbs]; exact h1
    exact (Int.mul_ediv_cancel' h2).symm
  exact (List.map_id _).symm.trans (List.map_congr_left this)
theorem pprim_nm (l : List Int) : Nm (pprim l) := nrm_nrm _
theorem pprim_zero {l : List Int} (h : dg l = 0) : pprim l = [] := by
  unfold pprim
  rw [List.length_eq_zero_iff.1 h]; rfl
theorem pprim_dg (l : List Int) : dg (pprim l) = dg l := by
  by_cases h : dg l = 0
  · rw [pprim_zero h, h]; rfl
  have h0 : scont l ≠ 0 := fun e => h (cont_zero.1 (by have := scont_natAbs l; omega))
  have e : ∀ x, pev l x = pev [scont l] x * pev (pprim l) x := fun x => by rw [pprim_ev]; simp [pev]
  have h1 : 0 < dg (pprim l) := dg_pos fun e1 => h (dg_zero.2 fun x => by rw [pprim_ev, e1]; simp)
  have h2 : dg [scont l] = 1 := by simp [dg, nrm, h0]
  have := (mul_dg e (by omega) h1).1
  omega
theorem pprim_cont {l : List Int} (h : 0 < dg l) : cont (pprim l) = 1 := by
  have h1 := cont_mul (pprim_ev l)
  rw [scont_natAbs] at h1
  have h2 : cont l ≠ 0 := fun e => by have := cont_zero.1 e; omega
  exact Nat.eq_of_mul_eq_mul_left (Nat.pos_of_ne_zero h2) (by omega)
theorem pprim_ld {l : List Int} (h : 0 < dg l) : 0 < ld (pprim l) := by
  have h1 := ld_ne (l := pprim l) (by rw [pprim_dg]; exact h)
  have h2 : ld l = scont l * ld (pprim l) := by
    have e : ∀ x, pev l x = pev (ptim (scont l) (pprim l)) x := fun x => by rw [ev_ptim, ← pprim_ev]
    unfold ld
    rw [co_ext e, co_ptim, pprim_dg]
  have h3 := ld_ne h
  unfold scont at h2
  refine Int.not_le.1 fun hn => ?_
  have h4 : ld (pprim l) < 0 := by omega
  have hc : (0 : Int) ≤ cont l := Int.natCast_nonneg _
  split at h2
  · have := Int.mul_nonneg_of_nonpos_of_nonpos (show -(cont l : Int) ≤ 0 by omega) (Int.le_of_lt h4); omega
  · have := Int.mul_nonpos_of_nonneg_of_nonpos hc (Int.le_of_lt h4); omega
theorem prim_dv {h r : List Int} (hh : cont h = 1) : Dv h (pprim r) ↔ Dv h r := by
  constructor
  · rintro ⟨u, hu⟩
    exact ⟨ptim (scont r) u, fun x => by rw [pprim_ev, hu, ev_ptim]; grind⟩
  · intro hd
    by_cases h0 : dg r = 0
    · exact Dv.zero _ fun x => by rw [pprim_zero h0]; rfl
    have h1 : scont r ≠ 0 := fun e => h0 (cont_zero.1 (by have := scont_natAbs r; omega))
    exact Dv.prim hh h1 (hd.ext (fun _ => rfl) fun x => by rw [ev_map_mul, ← pprim_ev])
theorem gcd_step {a b t r h : List Int} {k : Int} (hh : cont h = 1) (hk : k ≠ 0) (e : ∀ x, k * pev a x = pev b x * pev t x + pev r x) : Dv h a ∧ Dv h b ↔ Dv h b ∧ Dv h (pprim r) := by
  rw [prim_dv hh]
  constructor
  · rintro ⟨h1, h2⟩
    refine ⟨h2, (h1.mul_right (c := [k]) (d := ptim k a) fun x => by rw [ev_ptim]; simp only [pev]; grind).sub (h2.mul_right (c := t) (d := pmul b t) fun x => ev_pmul _ _ _) fun x => ?_⟩
    rw [ev_ptim, ev_pmul, e]; omega
  · rintro ⟨h1, h2⟩
    refine ⟨Dv.prim hh hk ((h1.mul_right (c := t) (d := pmul b t) fun x => ev_pmul _ _ _).add h2 fun x => ?_), h1⟩
    rw [ev_map_mul, e, ev_pmul]
theorem gcd_end {p q a : List Int} (ha : 0 < dg a → cont a = 1 ∧ 0 < ld a) (hz : dg a = 0 → dg p = 0 ∧ dg q = 0)
    (h : ∀ h, cont h = 1 → (Dv h a ↔ Dv h (pprim p) ∧ Dv h (pprim q))) : Gc (ptim (Nat.gcd (cont p) (cont q) : Nat) a) p q := by
  by_cases h0 : dg a = 0
  · obtain ⟨h1, h2⟩ := hz h0
    have e : ∀ x, pev (ptim (Nat.gcd (cont p) (cont q) : Nat) a) x = 0 := fun x => by rw [ev_ptim, dg_zero.1 h0]; simp
    refine ⟨Dv.zero _ (dg_zero.1 h1), Dv.zero _ (dg_zero.1 h2), fun d _ _ => Dv.zero _ e, ?_⟩
    unfold ld; rw [dg_le.1 (Nat.le_of_eq (dg_zero.2 e)) _ (Nat.zero_le _)]; exact Int.le_refl _
  obtain ⟨ha1, ha2⟩ := ha (by omega)
  obtain ⟨k1, k2⟩ := (h a ha1).1 (Dv.refl a)
  have side : ∀ (p : List Int) (c : Nat), c ∣ cont p → Dv a (pprim p) → Dv (ptim (c : Nat) a) p := fun p c hc hd => by
    obtain ⟨u, hu⟩ := hd
    obtain ⟨s, hs⟩ : (c : Int) ∣ scont p := by rw [← Int.dvd_natAbs, scont_natAbs]; exact Int.natCast_dvd_natCast.2 hc
    exact ⟨ptim s u, fun x => by rw [pprim_ev, hu, ev_ptim, ev_ptim, hs]; grind⟩
  refine ⟨side p _ (Nat.gcd_dvd_left _ _) k1, side q _ (Nat.gcd_dvd_right _ _) k2, fun d hp hq => ?_, ?_⟩
  · by_cases hd : dg d = 0
    · have z : ∀ {p : List Int}, Dv d p → cont p = 0 := fun ⟨u, hu⟩ => cont_zero.2 (dg_zero.2 fun x => by rw [hu, dg_zero.1 hd]; simp)
      exact Dv.zero _ fun x => by rw [ev_ptim, z hp, z hq]; simp
    have hd : 0 < dg d := by omega
    have hdp : Dv (pprim d) d := ⟨[scont d], fun x => by rw [pprim_ev]; simp only [pev]; grind⟩
    have h1 := (h (pprim d) (pprim_cont hd)).2 ⟨(prim_dv (pprim_cont hd)).2 (hdp.trans hp), (prim_dv (pprim_cont hd)).2 (hdp.trans hq)⟩
    obtain ⟨u, hu⟩ := h1
    have hc : cont d ∣ Nat.gcd (cont p) (cont q) := Nat.dvd_gcd hp.cnt hq.cnt
    obtain ⟨s, hs⟩ : scont d ∣ (Nat.gcd (cont p) (cont q) : Nat) := by rw [← Int.natAbs_dvd, scont_natAbs]; exact Int.natCast_dvd_natCast.2 hc
    exact ⟨ptim s u, fun x => by rw [ev_ptim, ev_ptim, hu, hs, pprim_ev d]; grind⟩
  · have e : ld (ptim (Nat.gcd (cont p) (cont q) : Nat) a) = if Nat.gcd (cont p) (cont q) = 0 then 0 else (Nat.gcd (cont p) (cont q) : Nat) * ld a := by
      by_cases hg : Nat.gcd (cont p) (cont q) = 0
      · rw [if_pos hg]
        unfold ld; rw [co_ptim, hg]; simp
      · rw [if_neg hg]
        have e : ∀ x, pev (ptim (Nat.gcd (cont p) (cont q) : Nat) a) x = pev [((Nat.gcd (cont p) (cont q) : Nat) : Int)] x * pev a x := fun x => by rw [ev_ptim]; simp [pev]
        have h2 : dg [((Nat.gcd (cont p) (cont q) : Nat) : Int)] = 1 := by simp only [dg, nrm]; rw [if_neg (by omega)]; rfl
        have h3 : ld [((Nat.gcd (cont p) (cont q) : Nat) : Int)] = (Nat.gcd (cont p) (cont q) : Nat) := by unfold ld; rw [h2]; rfl
        rw [(mul_dg e (by omega) (by omega)).2, h3]
    rw [e]
    split
    · exact Int.le_refl _
    · exact Int.mul_nonneg (Int.natCast_nonneg _) (Int.le_of_lt ha2)
end Go.Proofs.YtjebljkoiaojaaaGreat
namespace Go.Proofs.YtjebljkoiaojaaaGreat
theorem ipow_ne {a : Int} (h : a ≠ 0) : ∀ n : Nat, a ^ n ≠ 0
  | 0 => by rw [Int.pow_zero]; omega
  | n + 1 => by rw [Int.pow_succ]; exact Int.mul_ne_zero (ipow_ne h n) h
theorem gc_run : ∀ (n : Nat) (p q a b : List Int), dg b ≤ n → (0 < dg a → cont a = 1 ∧ 0 < ld a) → (0 < dg b → cont b = 1 ∧ 0 < ld b) → (dg a = 0 ∧ dg b = 0 → dg p = 0 ∧ dg q = 0) →
    (∀ h, cont h = 1 → (Dv h a ∧ Dv h b ↔ Dv h (pprim p) ∧ Dv h (pprim q))) → ∃ g, Gc g p q := by
  intro n
  induction n with
  | zero =>
    intro p q a b hb ha _ hz h
    have hb0 : dg b = 0 := by omega
    refine ⟨_, gcd_end (a := a) ha (fun h0 => hz ⟨h0, hb0⟩) fun d hd => ?_⟩
    rw [← h d hd]
    exact ⟨fun k => ⟨k, Dv.zero _ (dg_zero.1 hb0)⟩, fun k => k.1⟩
  | succ n ih =>
    intro p q a b hb ha hbp hz h
    by_cases h0 : dg b = 0
    · exact ih p q a b (by omega) ha hbp hz h
    obtain ⟨t, r, hr, e⟩ := pseudo (q := b) (by omega) (dg a) a (Nat.le_refl _)
    have hk : ld b ^ (dg a + 1 - dg b) ≠ 0 := fun e => by
      have := ld_ne (l := b) (by omega)
      exact ipow_ne this _ e
    refine ih p q b (pprim r) (by rw [pprim_dg]; omega) hbp (fun h1 => ?_) (fun h1 => by omega) fun d hd => ?_
    · rw [pprim_dg] at h1
      exact ⟨pprim_cont h1, pprim_ld h1⟩
    · rw [← h d hd, gcd_step hd hk e]
theorem gc_exists (p q : List Int) : ∃ g, Gc g p q := by
  refine gc_run _ p q (pprim p) (pprim q) (Nat.le_refl _) (fun h => ?_) (fun h => ?_) (fun h => ?_) fun _ _ => Iff.rfl
  · rw [pprim_dg] at h; exact ⟨pprim_cont h, pprim_ld h⟩
  · rw [pprim_dg] at h; exact ⟨pprim_cont h, pprim_ld h⟩
  · rwa [pprim_dg, pprim_dg] at h
theorem gc_mul {g p q r d : List Int} (h : Gc g p q) (h1 : Dv d (pmul p r)) (h2 : Dv d (pmul q r)) : Dv d (pmul g r) := by
  by_cases hr : dg r = 0
  · exact Dv.zero _ fun x => by rw [ev_pmul, dg_zero.1 hr]; simp
  obtain ⟨k, hk⟩ := gc_exists (pmul p r) (pmul q r)
  obtain ⟨a, ha⟩ := h.1
  obtain ⟨b, hb⟩ := h.2.1
  obtain ⟨u, hu⟩ := hk.2.2.1 (pmul g r) ⟨a, fun x => by rw [ev_pmul, ev_pmul, ha]; grind⟩ ⟨b, fun x => by rw [ev_pmul, ev_pmul, hb]; grind⟩
  have s : ∀ (p : List Int), Dv k (pmul p r) → Dv (pmul g u) p := fun p ⟨v, hv⟩ => ⟨v, fun x => by
    have := cancel (a := r) (u := p) (v := pmul (pmul g u) v) (by omega) (fun x => by
      have := hv x
      rw [hu, ev_pmul, ev_pmul] at this
      rw [ev_pmul, ev_pmul]; grind) x
    rw [this, ev_pmul]⟩
  obtain ⟨w, hw⟩ := h.2.2.1 _ (s p hk.1) (s q hk.2.1)
  refine (hk.2.2.1 d h1 h2).trans ⟨w, fun x => ?_⟩
  rw [ev_pmul, hw, ev_pmul, hu, ev_pmul]; grind
def Irr (h : List Int) : Prop := cont h = 1 ∧ 2 ≤ dg h ∧ ∀ d, cont d = 1 → Dv d h → dg d = 1 ∨ dg d = dg h
theorem Dv.prim_of {d h : List Int} (hh : cont h = 1) (k : Dv d h) : cont d = 1 := by
  have := k.cnt
  rw [hh] at this
  exact Nat.dvd_one.1 this
theorem irr_exists : ∀ (n : Nat) (p : List Int), dg p ≤ n → cont p = 1 → 2 ≤ dg p → ∃ h, Irr h ∧ Dv h p
  | 0, p, h, _, h2 => by omega
  | n + 1, p, hn, hc, h2 => by
    by_cases h : Irr p
    · exact ⟨p, h, Dv.refl p⟩
    · have : ∃ d, cont d = 1 ∧ Dv d p ∧ dg d ≠ 1 ∧ dg d ≠ dg p := Classical.byContradiction fun hn => h ⟨hc, h2, fun d h3 h4 => by
        by_cases e : dg d = 1
        · exact .inl e
        · by_cases e2 : dg d = dg p
          · exact .inr e2
          · exact (hn ⟨d, h3, h4, e, e2⟩).elim⟩
      obtain ⟨d, h3, h4, h5, h6⟩ := this
      have := h4.deg (by omega)
      obtain ⟨h, h7, h8⟩ := irr_exists n d (by omega) h3 (by omega)
      exact ⟨h, h7, h8.trans h4⟩
theorem Dv.back {d h : List Int} (hh : cont h = 1) (k : Dv d h) (e : dg d = dg h) : Dv h d := by
  have h0 : 0 < dg h := Nat.pos_of_ne_zero fun e => by rw [cont_zero.2 e] at hh; omega
  obtain ⟨u, hu⟩ := k
  have hu0 : 0 < dg u := dg_pos fun e => by
    have := (dg_zero (l := h)).2 fun x => by rw [hu, e]; simp
    omega
  have h1 := (mul_dg hu (by omega) hu0).1
  have h2 := cont_prod hu
  rw [hh] at h2
  have h3 : cont u = 1 := by
    exact Nat.eq_one_of_mul_eq_one_left h2.symm
  have h4 : ∀ x, pev u x = u.getD 0 0 := const_ev (by omega)
  have h5 : cont u = (u.getD 0 0).natAbs := by
    have := cont_ext (l := u) (m := [u.getD 0 0]) fun x => by rw [h4]; simp [pev]
    rw [this]; simp [cont]
  have h6 : u.getD 0 0 * u.getD 0 0 = 1 := by
    have : (u.getD 0 0).natAbs = 1 := by omega
    have h7 := Int.natAbs_mul_self (a := u.getD 0 0)
    rw [this] at h7; simpa using h7.symm
  exact ⟨u, fun x => by rw [hu, h4, Int.mul_assoc, h6, Int.mul_one]⟩
theorem irr_prime {h a b c : List Int} (hh : Irr h) (e : ∀ x, pev c x = pev a x * pev b x) (k : Dv h c) : Dv h a ∨ Dv h b := by
  obtain ⟨g, hg⟩ := gc_exists h a
  have hc := hg.1.prim_of hh.1
  rcases hh.2.2 g hc hg.1 with h1 | h1
  · right
    have h2 : Dv h (pmul g b) := gc_mul hg ⟨b, fun x => ev_pmul _ _ _⟩ (k.ext (fun _ => rfl) fun x => by rw [e, ev_pmul])
    have h4 : ∀ x, pev g x = g.getD 0 0 := const_ev (by omega)
    have h5 : g.getD 0 0 ≠ 0 := by
      have := ld_ne (l := g) (by omega)
      rwa [ld, show dg g - 1 = 0 by omega] at this
    exact Dv.prim hh.1 h5 (h2.ext (fun _ => rfl) fun x => by rw [ev_pmul, ev_map_mul, h4])
  · left
    exact (hg.1.back hh.1 h1).trans hg.2.1
def ppow (h : List Int) : Nat → List Int
  | 0 => [1]
  | n + 1 => pmul (ppow h n) h
theorem ev_ppow (h : List Int) (n : Nat) (x : Int) : pev (ppow h n) x = pev h x ^ n := by
  induction n with
  | zero => simp [ppow, pev]
  | succ n ih => rw [ppow, ev_pmul, ih, Int.pow_succ]
theorem val_exists {h : List Int} (hh : Irr h) : ∀ (n : Nat) (w : List Int), dg w ≤ n → 0 < dg w → ∃ k v, ¬ Dv h v ∧ ∀ x, pev w x = pev h x ^ k * pev v x
  | 0, w, h1, h2 => by omega
  | n + 1, w, h1, h2 => by
    by_cases hd : Dv h w
    · obtain ⟨u, hu⟩ := hd
      have hu0 : 0 < dg u := dg_pos fun e => by
        have := (dg_zero (l := w)).2 fun x => by rw [hu, e]; simp
        omega
      have h3 := (mul_dg hu (by have := hh.2.1; omega) hu0).1
      have h4 := hh.2.1
      obtain ⟨k, v, h5, h6⟩ := val_exists hh n u (by omega) hu0
      exact ⟨k + 1, v, h5, fun x => by rw [hu, h6, Int.pow_succ]; grind⟩
    · exact ⟨0, w, hd, fun x => by simp⟩
def pder (l : List Int) : List Int := nrm (lst (l.length - 1) fun i => ((i + 1 : Nat) : Int) * l.getD (i + 1) 0)
theorem co_pder (l : List Int) (i : Nat) : (pder l).getD i 0 = ((i + 1 : Nat) : Int) * l.getD (i + 1) 0 := by
  rw [pder, co_nrm, lst_get']
  split
  · rfl
  · rw [getD_none (l := l) (by omega)]; simp
theorem ev_co {l m : List Int} (h : ∀ i, l.getD i 0 = m.getD i 0) (x : Int) : pev l x = pev m x := ev_of_nrm (nrm_ext h) x
theorem pder_ext {l m : List Int} (h : ∀ x, pev l x = pev m x) (x : Int) : pev (pder l) x = pev (pder m) x := ev_co (fun i => by rw [co_pder, co_pder, co_ext h]) x
theorem pder_nm (l : List Int) : Nm (pder l) := nrm_nrm _
theorem pder_nil : pder [] = [] := rfl
theorem pder_cons (c : Int) (l : List Int) (x : Int) : pev (pder (c :: l)) x = pev l x + x * pev (pder l) x := by
  have e : pev (pder (c :: l)) x = pev (padd l (0 :: pder l)) x := ev_co (fun i => by
    rw [co_pder, co_padd, List.getD_cons_succ]
    cases i with
    | zero => simp
    | succ i => rw [List.getD_cons_succ, co_pder]; push_cast; grind) x
  rw [e, ev_padd]; simp [pev]
theorem pder_padd (l m : List Int) (x : Int) : pev (pder (padd l m)) x = pev (pder l) x + pev (pder m) x := by
  rw [← ev_padd]
  exact ev_co (fun i => by rw [co_pder, co_padd, co_padd, co_pder, co_pder]; grind) x
theorem pder_ptim (c : Int) (l : List Int) (x : Int) : pev (pder (ptim c l)) x = c * pev (pder l) x := by
  rw [← ev_ptim]
  exact ev_co (fun i => by rw [co_pder, co_ptim, co_ptim, co_pder]; grind) x
theorem pder_pmul : ∀ (l m : List Int) (x : Int), pev (pder (pmul l m)) x = pev (pder l) x * pev m x + pev l x * pev (pder m) x
  | [], m, x => by
    have : pev (pder (pmul [] m)) x = pev (pder []) x := pder_ext (fun x => by rw [ev_pmul]; simp [pev]) x
    rw [this]; simp [pder_nil, pev]
  | c :: l, m, x => by
    have e : pev (pder (pmul (c :: l) m)) x = pev (pder (padd (ptim c m) (0 :: pmul l m))) x := pder_ext (fun x => by
      rw [ev_pmul, ev_padd, ev_ptim]; simp only [pev]; rw [ev_pmul]; grind) x
    rw [e, pder_padd, pder_ptim, pder_cons, pder_cons, pder_pmul l m x, ev_pmul]; simp only [pev]; grind
theorem pder_mul {a b c : List Int} (e : ∀ x, pev c x = pev a x * pev b x) (x : Int) : pev (pder c) x = pev (pder a) x * pev b x + pev a x * pev (pder b) x := by
  rw [← pder_pmul]; exact pder_ext (fun x => by rw [e, ev_pmul]) x
theorem pder_dg {l : List Int} (h : 2 ≤ dg l) : dg (pder l) + 1 = dg l := by
  have h1 : dg (pder l) ≤ dg l - 1 := dg_le.2 fun i hi => by rw [co_pder, dg_le.1 (Nat.le_refl (dg l)) _ (by omega), Int.mul_zero]
  have h2 : ¬ dg (pder l) ≤ dg l - 2 := fun hn => by
    have h3 := dg_le.1 hn (dg l - 2) (Nat.le_refl _)
    rw [co_pder, show dg l - 2 + 1 = dg l - 1 by omega] at h3
    have h4 : ld l ≠ 0 := ld_ne (by omega)
    rcases Int.mul_eq_zero.1 h3 with h5 | h5
    · omega
    · exact h4 h5
  omega
theorem pder_low {l : List Int} (h : dg l ≤ 1) (x : Int) : pev (pder l) x = 0 := by
  refine dg_zero.1 (Nat.le_zero.1 (dg_le.2 fun i _ => ?_)) x
  rw [co_pder, dg_le.1 h _ (by omega), Int.mul_zero]
theorem pder_ppow (h : List Int) : ∀ (n : Nat) (x : Int), pev (pder (ppow h (n + 1))) x = ((n + 1 : Nat) : Int) * pev h x ^ n * pev (pder h) x
  | 0, x => by
    have : pev (pder (ppow h (0 + 1))) x = pev (pder h) x := pder_ext (fun x => by rw [ev_ppow, Int.pow_succ, Int.pow_zero, Int.one_mul]) x
    rw [this]; simp
  | n + 1, x => by
    rw [ppow, pder_pmul, pder_ppow h n x, ev_ppow]; push_cast; grind
theorem simple_once {w g s h : List Int} (hw : 0 < dg w) (hg : Gc g w (pder w)) (hs : ∀ x, pev w x = pev g x * pev s x) (hh : Irr h) (hd : Dv h w) :
    Dv h s ∧ ∀ f, (∀ x, pev s x = pev h x * pev f x) → ¬ Dv h f := by
  obtain ⟨k, v, hv, ev⟩ := val_exists hh _ w (Nat.le_refl _) hw
  have h2 := hh.2.1
  cases k with
  | zero => exact (hv (hd.ext (fun _ => rfl) fun x => by rw [ev]; simp)).elim
  | succ k =>
    have e1 : ∀ x, pev w x = pev (ppow h (k + 1)) x * pev v x := fun x => by rw [ev, ev_ppow]
    have e2 : ∀ x, pev (pder w) x = pev h x ^ k * pev (padd (pmul (ptim ((k + 1 : Nat) : Int) (pder h)) v) (pmul h (pder v))) x := fun x => by
      rw [pder_mul e1, pder_ppow, ev_ppow, ev_padd, ev_pmul, ev_ptim, ev_pmul, Int.pow_succ]; grind
    have h3 : ¬ Dv h (padd (pmul (ptim ((k + 1 : Nat) : Int) (pder h)) v) (pmul h (pder v))) := fun hc => by
      have h4 : Dv h (pmul (ptim ((k + 1 : Nat) : Int) (pder h)) v) := hc.sub (c := pmul h (pder v)) ⟨pder v, fun x => ev_pmul _ _ _⟩ fun x => by rw [ev_padd]; omega
      rcases irr_prime hh (fun x => ev_pmul _ _ _) h4 with h5 | h5
      · have h6 : dg (ptim ((k + 1 : Nat) : Int) (pder h)) = dg (pder h) := by
          have a1 : dg [((k + 1 : Nat) : Int)] = 1 := by simp only [dg, nrm]; rw [if_neg (by omega)]; rfl
          have := (mul_dg (a := [((k + 1 : Nat) : Int)]) (b := pder h) (c := ptim ((k + 1 : Nat) : Int) (pder h)) (fun x => by rw [ev_ptim]; simp [pev]) (by omega) (by have := pder_dg h2; omega)).1
          omega
        have h7 := pder_dg h2
        have := h5.deg (by omega)
        omega
      · exact hv h5
    have hpk : 0 < dg (ppow h k) := dg_pos fun e => by
      have := (dg_zero (l := w)).2 fun x => by
        rw [ev, Int.pow_succ, ← ev_ppow, e]; simp
      omega
    obtain ⟨e, he⟩ : Dv (ppow h k) g := hg.2.2.1 _ ⟨pmul h v, fun x => by rw [ev, ev_ppow, ev_pmul, Int.pow_succ]; grind⟩ ⟨padd (pmul (ptim ((k + 1 : Nat) : Int) (pder h)) v) (pmul h (pder v)), fun x => by rw [e2, ev_ppow]⟩
    have h8 : ¬ Dv h e := fun ⟨m, hm⟩ => h3 (by
      obtain ⟨z, hz⟩ := hg.2.1
      have h10 := cancel (u := padd (pmul (ptim ((k + 1 : Nat) : Int) (pder h)) v) (pmul h (pder v))) (v := pmul h (pmul m z)) hpk fun x => by
        rw [ev_ppow, ← e2, hz, he, hm, ev_ppow, ev_pmul, ev_pmul]; grind
      exact ⟨pmul m z, fun x => by rw [h10, ev_pmul]⟩)
    have h9 : ∀ x, pev (pmul h v) x = pev e x * pev s x := fun x => by
      rw [← ev_pmul]
      exact cancel hpk (fun x => by
        have := hs x
        rw [ev, he, ev_ppow, Int.pow_succ] at this
        rw [ev_ppow, ev_pmul, ev_pmul]; grind) x
    rcases irr_prime hh h9 ⟨v, fun x => ev_pmul _ _ _⟩ with h10 | h10
    · exact (h8 h10).elim
    · refine ⟨h10, fun f hf hdf => hv ?_⟩
      have : ∀ x, pev v x = pev (pmul e f) x := cancel (a := h) (by omega) fun x => by
        have := h9 x
        rw [ev_pmul, hf] at this
        rw [ev_pmul]; grind
      obtain ⟨y, hy⟩ := hdf
      exact ⟨pmul e y, fun x => by rw [this, ev_pmul, hy, ev_pmul]; grind⟩
theorem simple_free {w g s d : List Int} (hw : 0 < dg w) (hc : cont w = 1) (hg : Gc g w (pder w)) (hs : ∀ x, pev w x = pev g x * pev s x) (hd : Gc d s (pder s)) : dg d = 1 := by
  have hsw : Dv s w := ⟨g, fun x => by rw [hs]; grind⟩
  have hcs := hsw.prim_of hc
  have h0 : 0 < dg s := (hsw.deg hw).1
  have h1 := (hd.1.deg h0).1
  refine Classical.byContradiction fun hn => ?_
  obtain ⟨h, hh, hdv⟩ := irr_exists _ d (Nat.le_refl _) (hd.1.prim_of hcs) (by omega)
  have h2 := hdv.trans hd.1
  obtain ⟨k1, k2⟩ := simple_once hw hg hs hh (h2.trans hsw)
  obtain ⟨f, hf⟩ := h2
  refine k2 f hf ?_
  have h3 : Dv h (pmul (pder h) f) := (hdv.trans hd.2.1).sub (c := pmul h (pder f)) ⟨pder f, fun x => ev_pmul _ _ _⟩ fun x => by
    rw [pder_mul hf, ev_pmul, ev_pmul]; omega
  rcases irr_prime hh (fun x => ev_pmul _ _ _) h3 with h4 | h4
  · have h5 := pder_dg hh.2.1
    have := h4.deg (by have := hh.2.1; omega)
    omega
  · exact h4
theorem simple_power {w g s : List Int} (hw : 0 < dg w) (hg : Gc g w (pder w)) (hs : ∀ x, pev w x = pev g x * pev s x) : ∀ (n : Nat) (d : List Int), dg d ≤ n + 1 → cont d = 1 → Dv d w → Dv d (ppow s n)
  | n, d, hn, hc, hd => by
    have h0 := (hd.deg hw).1
    by_cases h1 : dg d = 1
    · have h2 : ∀ x, pev d x = d.getD 0 0 := const_ev (by omega)
      have h5 : cont d = (d.getD 0 0).natAbs := by
        have := cont_ext (l := d) (m := [d.getD 0 0]) fun x => by rw [h2]; simp [pev]
        rw [this]; simp [cont]
      have h6 : d.getD 0 0 * d.getD 0 0 = 1 := by
        have h7 := Int.natAbs_mul_self (a := d.getD 0 0)
        rw [← h5, hc] at h7; simpa using h7.symm
      have h3 : Dv d [1] := ⟨d, fun x => by rw [h2, h6]; simp [pev]⟩
      exact h3.trans ⟨ppow s n, fun x => by simp [pev]⟩
    · cases n with
      | zero => omega
      | succ n =>
        obtain ⟨h, hh, hdv⟩ := irr_exists _ d (Nat.le_refl _) hc (by omega)
        obtain ⟨e, he⟩ := hdv
        have h2 := hh.2.1
        have he0 : 0 < dg e := dg_pos fun z => by
          have := (dg_zero (l := d)).2 fun x => by rw [he, z]; simp
          omega
        have h3 := (mul_dg he (by omega) he0).1
        have hed : Dv e d := ⟨h, fun x => by rw [he]; grind⟩
        obtain ⟨a, ha⟩ := simple_power hw hg hs n e (by omega) (hed.prim_of hc) (hed.trans hd)
        obtain ⟨b, hb⟩ := (simple_once hw hg hs hh ((show Dv h d from ⟨e, he⟩).trans hd)).1
        exact ⟨pmul a b, fun x => by rw [ppow, ev_pmul, ha, hb, he, ev_pmul]; grind⟩
end Go.Proofs.YtjebljkoiaojaaaGreat
namespace Go.Proofs.YtjebljkoiaojaaaGreat
def gh : List Int → Int → Int → Int
  | [], _, _ => 0
  | c :: l, w, u => c * w ^ (l.length + 1) + u * gh l w u
def ghl (w : Int) : List Int → List Int
  | [] => []
  | c :: l => c * w ^ (l.length + 1) :: ghl w l
def g1 : List Int → Int → Int → Int
  | [], _, _ => 0
  | _ :: l, w, u => gh l w u + u * g1 l w u
def g1l (w : Int) : List Int → List Int
  | [] => []
  | _ :: l => padd (ghl w l) (0 :: g1l w l)
theorem ghl_ev (w u : Int) (l : List Int) : pev (ghl w l) u = gh l w u := by
  induction l with
  | nil => rfl
  | cons c l ih => simp only [ghl, gh, pev, ih]
theorem g1l_ev (w u : Int) (l : List Int) : pev (g1l w l) u = g1 l w u := by
  induction l with
  | nil => rfl
  | cons c l ih => simp only [g1l, g1, ev_padd, ghl_ev, pev, ih]; omega
theorem gh_at (w x : Int) (l : List Int) : gh l w (w * x) = w ^ l.length * pev l x := by
  induction l with
  | nil => simp [gh, pev]
  | cons c l ih => simp only [gh, pev, ih, List.length_cons, Int.pow_succ]; grind
theorem g1_at (w x : Int) (l : List Int) : w * g1 l w (w * x) = w ^ l.length * pev (pder l) x := by
  induction l with
  | nil => rw [pder_nil]; simp [g1, pev]
  | cons c l ih =>
    rw [pder_cons]
    simp only [g1, gh_at, List.length_cons, Int.pow_succ]
    have : w * (w ^ l.length * pev l x + w * x * g1 l w (w * x)) = w ^ l.length * w * pev l x + w * x * (w * g1 l w (w * x)) := by grind
    rw [this, ih]; grind
def gC (M : Nat) : List Int → Nat
  | [] => 0
  | c :: l => c.natAbs + M * gC M l
def gD (M : Nat) : List Int → Nat
  | [] => 0
  | _ :: l => M * gD M l + gC (M + 1) l
def gF (M : Nat) : List Int → Nat
  | [] => 0
  | _ :: l => M * gF M l + gD M l
theorem gh_le {M w : Nat} {u : Int} (h : u.natAbs ≤ M * w) (l : List Int) : (gh l w u).natAbs ≤ gC M l * w ^ l.length := by
  induction l with
  | nil => simp [gh]
  | cons c l ih =>
    have h1 := Int.natAbs_add_le (c * (w : Int) ^ (l.length + 1)) (u * gh l w u)
    rw [Int.natAbs_mul, Int.natAbs_mul, Int.natAbs_pow, Int.natAbs_natCast] at h1
    have h2 : u.natAbs * (gh l w u).natAbs ≤ (M * w) * (gC M l * w ^ l.length) := Nat.mul_le_mul h ih
    have h3 : (c.natAbs + M * gC M l) * w ^ (l.length + 1) = c.natAbs * w ^ (l.length + 1) + (M * w) * (gC M l * w ^ l.length) := by
      rw [Nat.pow_succ]; grind
    show (c * (w : Int) ^ (l.length + 1) + u * gh l w u).natAbs ≤ (c.natAbs + M * gC M l) * w ^ (l.length + 1)
    omega
theorem up_le {M w : Nat} {u : Int} (h : u.natAbs ≤ M * w) (hw : 1 ≤ w) : (u + 1).natAbs ≤ (M + 1) * w := by
  rw [Nat.succ_mul]; omega
theorem gh_lip {M w : Nat} {u : Int} (h : u.natAbs ≤ M * w) (hw : 1 ≤ w) (l : List Int) : (gh l w (u + 1) - gh l w u).natAbs * w ≤ gD M l * w ^ l.length := by
  induction l with
  | nil => simp [gh]
  | cons c l ih =>
    have e : gh (c :: l) w (u + 1) - gh (c :: l) w u = u * (gh l w (u + 1) - gh l w u) + gh l w (u + 1) := by simp only [gh]; grind
    have h1 := Int.natAbs_add_le (u * (gh l w (u + 1) - gh l w u)) (gh l w (u + 1))
    rw [Int.natAbs_mul] at h1
    have h2 := gh_le (up_le h hw) l
    rw [e]
    have h3 : u.natAbs * ((gh l w (u + 1) - gh l w u).natAbs * w) ≤ (M * w) * (gD M l * w ^ l.length) := Nat.mul_le_mul h ih
    have h4 : (u * (gh l w (u + 1) - gh l w u) + gh l w (u + 1)).natAbs * w ≤ (u.natAbs * (gh l w (u + 1) - gh l w u).natAbs + (gh l w (u + 1)).natAbs) * w := Nat.mul_le_mul_right _ h1
    have h5 : (gh l w (u + 1)).natAbs * w ≤ gC (M + 1) l * w ^ l.length * w := Nat.mul_le_mul_right _ h2
    have h6 : (M * gD M l + gC (M + 1) l) * w ^ (l.length + 1) = (M * w) * (gD M l * w ^ l.length) + gC (M + 1) l * w ^ l.length * w := by rw [Nat.pow_succ]; grind
    have h7 : (u.natAbs * (gh l w (u + 1) - gh l w u).natAbs + (gh l w (u + 1)).natAbs) * w = u.natAbs * ((gh l w (u + 1) - gh l w u).natAbs * w) + (gh l w (u + 1)).natAbs * w := by grind
    show _ ≤ (M * gD M l + gC (M + 1) l) * w ^ (l.length + 1)
    omega
theorem gh_der {M w : Nat} {u : Int} (h : u.natAbs ≤ M * w) (hw : 1 ≤ w) (l : List Int) : (gh l w (u + 1) - gh l w u - g1 l w u).natAbs * (w * w) ≤ gF M l * w ^ l.length := by
  induction l with
  | nil => simp [gh, g1]
  | cons c l ih =>
    have e : gh (c :: l) w (u + 1) - gh (c :: l) w u - g1 (c :: l) w u = u * (gh l w (u + 1) - gh l w u - g1 l w u) + (gh l w (u + 1) - gh l w u) := by simp only [gh, g1]; grind
    have h1 := Int.natAbs_add_le (u * (gh l w (u + 1) - gh l w u - g1 l w u)) (gh l w (u + 1) - gh l w u)
    rw [Int.natAbs_mul] at h1
    have h2 := gh_lip h hw l
    rw [e]
    generalize gh l w (u + 1) - gh l w u - g1 l w u = E at *
    generalize gh l w (u + 1) - gh l w u = D at *
    have h3 : u.natAbs * (E.natAbs * (w * w)) ≤ (M * w) * (gF M l * w ^ l.length) := Nat.mul_le_mul h ih
    have h4 : (u * E + D).natAbs * (w * w) ≤ (u.natAbs * E.natAbs + D.natAbs) * (w * w) := Nat.mul_le_mul_right _ h1
    have h5 : D.natAbs * w * w ≤ gD M l * w ^ l.length * w := Nat.mul_le_mul_right _ h2
    have h6 : (M * gF M l + gD M l) * w ^ (l.length + 1) = (M * w) * (gF M l * w ^ l.length) + gD M l * w ^ l.length * w := by rw [Nat.pow_succ]; grind
    have h7 : (u.natAbs * E.natAbs + D.natAbs) * (w * w) = u.natAbs * (E.natAbs * (w * w)) + D.natAbs * w * w := by grind
    show _ ≤ (M * gF M l + gD M l) * w ^ (l.length + 1)
    omega
def pst (w : Int) : List Int → List Int
  | [] => []
  | c :: l => c :: (pst w l).map (fun y => w * y)
theorem ev_pst (w : Int) (l : List Int) (x : Int) : pev (pst w l) x = pev l (w * x) := by
  induction l with
  | nil => rfl
  | cons c l ih => simp only [pst, pev, ev_map_mul, ih]; grind
theorem co_pst (w : Int) (l : List Int) (i : Nat) : (pst w l).getD i 0 = w ^ i * l.getD i 0 := by
  induction l generalizing i with
  | nil => simp [pst]
  | cons c l ih =>
    cases i with
    | zero => simp [pst]
    | succ i =>
      show ((pst w l).map fun y => w * y).getD i 0 = _
      rw [co_map, ih, List.getD_cons_succ, Int.pow_succ]; grind
theorem mult_ext {F G : List Int} {w : Int} (hw : w ≠ 0) (h : ∀ x, pev F (w * x) = pev G (w * x)) (u : Int) : pev F u = pev G u := by
  have h1 : ∀ i, F.getD i 0 = G.getD i 0 := fun i => by
    have := co_ext (l := pst w F) (m := pst w G) (fun x => by rw [ev_pst, ev_pst, h]) i
    rw [co_pst, co_pst] at this
    exact Int.eq_of_mul_eq_mul_left (Int.pow_ne_zero hw) this
  rw [← ev_nrm F, ← ev_nrm G, nrm_ext h1]
theorem gh_bez {A B U V : List Int} {R : Int} (h : ∀ x, pev U x * pev A x + pev V x * pev B x = R) {w : Int} (hw : w ≠ 0) (u : Int) :
    w ^ (V.length + B.length) * (gh U w u * gh A w u) + w ^ (U.length + A.length) * (gh V w u * gh B w u) = R * w ^ (U.length + A.length + (V.length + B.length)) := by
  have := mult_ext hw (F := padd (ptim (w ^ (V.length + B.length)) (pmul (ghl w U) (ghl w A))) (ptim (w ^ (U.length + A.length)) (pmul (ghl w V) (ghl w B)))) (G := [R * w ^ (U.length + A.length + (V.length + B.length))]) (fun x => by
    rw [ev_padd, ev_ptim, ev_ptim, ev_pmul, ev_pmul]
    simp only [ghl_ev, gh_at, pev]
    have e1 : w ^ (V.length + B.length) * (w ^ U.length * pev U x * (w ^ A.length * pev A x)) = w ^ (U.length + A.length + (V.length + B.length)) * (pev U x * pev A x) := by simp only [Int.pow_add]; grind
    have e2 : w ^ (U.length + A.length) * (w ^ V.length * pev V x * (w ^ B.length * pev B x)) = w ^ (U.length + A.length + (V.length + B.length)) * (pev V x * pev B x) := by simp only [Int.pow_add]; grind
    rw [e1, e2, ← Int.mul_add, h]; grind) u
  rw [ev_padd, ev_ptim, ev_ptim, ev_pmul, ev_pmul] at this
  simp only [ghl_ev, pev] at this
  omega
theorem gh_rel {A B C q : List Int} {α β : Int} (h : ∀ x, α * pev A x = pev q x * pev B x - β * pev C x) {w : Int} (hw : w ≠ 0) (u : Int) :
    w ^ (q.length + B.length + C.length) * (α * gh A w u) = w ^ (A.length + C.length) * (gh q w u * gh B w u) - w ^ (A.length + q.length + B.length) * (β * gh C w u) := by
  have := mult_ext hw (F := ptim (w ^ (q.length + B.length + C.length) * α) (ghl w A)) (G := psub (ptim (w ^ (A.length + C.length)) (pmul (ghl w q) (ghl w B))) (ptim (w ^ (A.length + q.length + B.length) * β) (ghl w C))) (fun x => by
    rw [ev_psub, ev_ptim, ev_ptim, ev_ptim, ev_pmul]
    simp only [ghl_ev, gh_at]
    have e0 : w ^ (q.length + B.length + C.length) * α * (w ^ A.length * pev A x) = w ^ (A.length + q.length + B.length + C.length) * (α * pev A x) := by simp only [Int.pow_add]; grind
    have e1 : w ^ (A.length + C.length) * (w ^ q.length * pev q x * (w ^ B.length * pev B x)) = w ^ (A.length + q.length + B.length + C.length) * (pev q x * pev B x) := by simp only [Int.pow_add]; grind
    have e2 : w ^ (A.length + q.length + B.length) * β * (w ^ C.length * pev C x) = w ^ (A.length + q.length + B.length + C.length) * (β * pev C x) := by simp only [Int.pow_add]; grind
    rw [e0, e1, e2, h]; grind) u
  rw [ev_psub, ev_ptim, ev_ptim, ev_ptim, ev_pmul] at this
  simp only [ghl_ev] at this
  grind
theorem g1_der (l : List Int) {w : Int} (hw : w ≠ 0) (u : Int) : w ^ (pder l).length * (w * g1 l w u) = w ^ l.length * gh (pder l) w u := by
  have := mult_ext hw (F := ptim (w ^ (pder l).length * w) (g1l w l)) (G := ptim (w ^ l.length) (ghl w (pder l))) (fun x => by
    rw [ev_ptim, ev_ptim]
    simp only [ghl_ev, g1l_ev, gh_at]
    rw [Int.mul_assoc, g1_at]; grind) u
  rw [ev_ptim, ev_ptim] at this
  simp only [ghl_ev, g1l_ev] at this
  grind
def tch (l : List Int) (w : Nat) (u : Int) : Prop := gh l w u * gh l w (u + 1) ≤ 0
theorem abs_of_mul {a b : Int} (h : a * b ≤ 0) : a.natAbs ≤ (b - a).natAbs := by
  rcases Int.lt_trichotomy a 0 with ha | ha | ha
  · have : 0 ≤ b := Int.le_of_not_gt fun hb => by have := Int.mul_pos_of_neg_of_neg ha hb; omega
    omega
  · omega
  · have : b ≤ 0 := Int.le_of_not_gt fun hb => by have := Int.mul_pos ha hb; omega
    omega
theorem tch_small {M w : Nat} {u : Int} {l : List Int} (h : u.natAbs ≤ M * w) (hw : 1 ≤ w) (ht : tch l w u) : (gh l w u).natAbs * w ≤ gD M l * w ^ l.length :=
  Nat.le_trans (Nat.mul_le_mul_right _ (abs_of_mul ht)) (gh_lip h hw l)
theorem touch_far {A B U V : List Int} {R : Int} (hR : R ≠ 0) (h : ∀ x, pev U x * pev A x + pev V x * pev B x = R) (M : Nat) :
    ∃ W, ∀ w, W ≤ w → ∀ u : Int, u.natAbs ≤ M * w → tch A w u → w ^ B.length ≤ 2 * gC M V * (gh B w u).natAbs ∧ 0 < gh B w u * gh B w (u + 1) := by
  refine ⟨2 * (gC M U * gD M A) + 2 * (gD M B * gC M V) + 1, fun w hW u hu ht => ?_⟩
  have hw : 1 ≤ w := by omega
  have hw0 : (w : Int) ≠ 0 := by omega
  have e := gh_bez h hw0 u
  have hA := tch_small hu hw ht
  have bU := gh_le hu U
  have bV := gh_le hu V
  have lB := gh_lip hu hw B
  have key : w ^ B.length ≤ 2 * gC M V * (gh B w u).natAbs := by
    have e1 := congrArg Int.natAbs e
    have e2 := Int.natAbs_add_le ((w : Int) ^ (V.length + B.length) * (gh U w u * gh A w u)) ((w : Int) ^ (U.length + A.length) * (gh V w u * gh B w u))
    rw [e1] at e2
    simp only [Int.natAbs_mul, Int.natAbs_pow, Int.natAbs_natCast] at e2
    generalize (gh U w u).natAbs = gU at *
    generalize (gh A w u).natAbs = gA at *
    generalize (gh V w u).natAbs = gV at *
    generalize (gh B w u).natAbs = gB at *
    have hR1 : 1 ≤ R.natAbs := by omega
    have f1 : gU * (gA * w) ≤ (gC M U * w ^ U.length) * (gD M A * w ^ A.length) := Nat.mul_le_mul bU hA
    have f2 : gV * gB ≤ (gC M V * w ^ V.length) * gB := Nat.mul_le_mul_right _ bV
    have f3 : 1 * w ^ (U.length + A.length + (V.length + B.length)) ≤ R.natAbs * w ^ (U.length + A.length + (V.length + B.length)) := Nat.mul_le_mul_right _ hR1
    have P : 0 < w ^ (U.length + A.length + V.length) := Nat.pow_pos (by omega)
    have g : w ^ (U.length + A.length + V.length) * (w ^ B.length * w) ≤ w ^ (U.length + A.length + V.length) * (gC M U * gD M A * w ^ B.length + gC M V * gB * w) := by
      have s1 : w ^ (U.length + A.length + (V.length + B.length)) * w ≤ (w ^ (V.length + B.length) * (gU * gA) + w ^ (U.length + A.length) * (gV * gB)) * w := Nat.mul_le_mul_right _ (by omega)
      have s2 : w ^ (V.length + B.length) * (gU * (gA * w)) ≤ w ^ (V.length + B.length) * ((gC M U * w ^ U.length) * (gD M A * w ^ A.length)) := Nat.mul_le_mul_left _ f1
      have s3 : w ^ (U.length + A.length) * (gV * gB) * w ≤ w ^ (U.length + A.length) * ((gC M V * w ^ V.length) * gB) * w := Nat.mul_le_mul_right _ (Nat.mul_le_mul_left _ f2)
      have t1 : w ^ (U.length + A.length + V.length) * (w ^ B.length * w) = w ^ (U.length + A.length + (V.length + B.length)) * w := by simp only [Nat.pow_add]; grind
      have t2 : w ^ (U.length + A.length + V.length) * (gC M U * gD M A * w ^ B.length + gC M V * gB * w) = w ^ (V.length + B.length) * ((gC M U * w ^ U.length) * (gD M A * w ^ A.length)) + w ^ (U.length + A.length) * ((gC M V * w ^ V.length) * gB) * w := by simp only [Nat.pow_add]; grind
      have t3 : (w ^ (V.length + B.length) * (gU * gA) + w ^ (U.length + A.length) * (gV * gB)) * w = w ^ (V.length + B.length) * (gU * (gA * w)) + w ^ (U.length + A.length) * (gV * gB) * w := by grind
      omega
    have g2 := Nat.le_of_mul_le_mul_left g P
    have g3 : 2 * (gC M U * gD M A) * w ^ B.length ≤ w * w ^ B.length := Nat.mul_le_mul_right _ (by omega)
    have g4 : w ^ B.length * w ≤ (2 * gC M V * gB) * w := by
      have a1 : w * w ^ B.length = w ^ B.length * w := Nat.mul_comm _ _
      have a2 : 2 * (gC M U * gD M A) * w ^ B.length = 2 * (gC M U * gD M A * w ^ B.length) := Nat.mul_assoc _ _ _
      have a3 : (2 * gC M V * gB) * w = 2 * (gC M V * gB * w) := by grind
      omega
    exact Nat.le_of_mul_le_mul_right g4 (by omega)
  refine ⟨key, ?_⟩
  have hB0 : 0 < (gh B w u).natAbs := Nat.pos_of_ne_zero fun e0 => by
    rw [e0, Nat.mul_zero] at key
    have : 0 < w ^ B.length := Nat.pow_pos (by omega)
    omega
  have hlt : (gh B w (u + 1) - gh B w u).natAbs < (gh B w u).natAbs := by
    have s1 : gD M B * w ^ B.length ≤ gD M B * (2 * gC M V * (gh B w u).natAbs) := Nat.mul_le_mul_left _ key
    have s2 : gD M B * (2 * gC M V * (gh B w u).natAbs) = (2 * (gD M B * gC M V)) * (gh B w u).natAbs := by grind
    have s3 : (2 * (gD M B * gC M V) + 1) * (gh B w u).natAbs ≤ w * (gh B w u).natAbs := Nat.mul_le_mul_right _ (by omega)
    refine Nat.lt_of_mul_lt_mul_right (a := w) ?_
    have s4 : (2 * (gD M B * gC M V) + 1) * (gh B w u).natAbs = (2 * (gD M B * gC M V)) * (gh B w u).natAbs + (gh B w u).natAbs := by grind
    have s5 : w * (gh B w u).natAbs = (gh B w u).natAbs * w := Nat.mul_comm _ _
    omega
  generalize gh B w (u + 1) = y at *
  generalize gh B w u = x at *
  rcases Int.lt_trichotomy x 0 with hx | hx | hx
  · exact Int.mul_pos_of_neg_of_neg hx (by omega)
  · omega
  · exact Int.mul_pos hx (by omega)
end Go.Proofs.YtjebljkoiaojaaaGreat
namespace Go.Proofs.YtjebljkoiaojaaaGreat
theorem rel_opp {A B C q : List Int} {α β : Int} (hα : 0 < α) (hβ : 0 < β) (h : ∀ x, α * pev A x = pev q x * pev B x - β * pev C x) (M c : Nat) :
    ∃ W, ∀ w, W ≤ w → ∀ u : Int, u.natAbs ≤ M * w → tch B w u → w ^ C.length ≤ c * (gh C w u).natAbs → gh A w u * gh C w u < 0 := by
  refine ⟨gC M q * gD M B * c + 1, fun w hW u hu ht hc => ?_⟩
  have hw : 1 ≤ w := by omega
  have hw0 : (w : Int) ≠ 0 := by omega
  have hwp : (0 : Int) < (w : Int) := by omega
  have e := gh_rel h hw0 u
  have hB := tch_small hu hw ht
  have bq := gh_le hu q
  have hC0 : 0 < (gh C w u).natAbs := Nat.pos_of_ne_zero fun e0 => by
    rw [e0, Nat.mul_zero] at hc
    have : 0 < w ^ C.length := Nat.pow_pos (by omega)
    omega
  have hlt : w ^ (A.length + C.length) * ((gh q w u).natAbs * (gh B w u).natAbs) < w ^ (A.length + q.length + B.length) * (gh C w u).natAbs := by
    have s1 : (gh q w u).natAbs * ((gh B w u).natAbs * w) ≤ (gC M q * w ^ q.length) * (gD M B * w ^ B.length) := Nat.mul_le_mul bq hB
    have s2 : w ^ (A.length + C.length) * ((gh q w u).natAbs * ((gh B w u).natAbs * w)) ≤ w ^ (A.length + C.length) * ((gC M q * w ^ q.length) * (gD M B * w ^ B.length)) := Nat.mul_le_mul_left _ s1
    have s3 : w ^ (A.length + q.length + B.length) * (gC M q * gD M B * w ^ C.length) ≤ w ^ (A.length + q.length + B.length) * (gC M q * gD M B * (c * (gh C w u).natAbs)) := Nat.mul_le_mul_left _ (Nat.mul_le_mul_left _ hc)
    have t1 : w ^ (A.length + C.length) * ((gC M q * w ^ q.length) * (gD M B * w ^ B.length)) = w ^ (A.length + q.length + B.length) * (gC M q * gD M B * w ^ C.length) := by simp only [Nat.pow_add]; grind
    have t2 : w ^ (A.length + q.length + B.length) * (gC M q * gD M B * (c * (gh C w u).natAbs)) = (gC M q * gD M B * c) * (w ^ (A.length + q.length + B.length) * (gh C w u).natAbs) := by grind
    have hP : 0 < w ^ (A.length + q.length + B.length) * (gh C w u).natAbs := Nat.mul_pos (Nat.pow_pos (by omega)) hC0
    have s4 : (gC M q * gD M B * c + 1) * (w ^ (A.length + q.length + B.length) * (gh C w u).natAbs) ≤ w * (w ^ (A.length + q.length + B.length) * (gh C w u).natAbs) := Nat.mul_le_mul_right _ hW
    refine Nat.lt_of_mul_lt_mul_right (a := w) ?_
    have t3 : w ^ (A.length + C.length) * ((gh q w u).natAbs * (gh B w u).natAbs) * w = w ^ (A.length + C.length) * ((gh q w u).natAbs * ((gh B w u).natAbs * w)) := by grind
    have t4 : (gC M q * gD M B * c + 1) * (w ^ (A.length + q.length + B.length) * (gh C w u).natAbs) = (gC M q * gD M B * c) * (w ^ (A.length + q.length + B.length) * (gh C w u).natAbs) + w ^ (A.length + q.length + B.length) * (gh C w u).natAbs := by grind
    have t5 : w * (w ^ (A.length + q.length + B.length) * (gh C w u).natAbs) = w ^ (A.length + q.length + B.length) * (gh C w u).natAbs * w := Nat.mul_comm _ _
    omega
  have hmid : ((w : Int) ^ (A.length + C.length) * (gh q w u * gh B w u)).natAbs < ((w : Int) ^ (A.length + q.length + B.length) * (β * gh C w u)).natAbs := by
    simp only [Int.natAbs_mul, Int.natAbs_pow, Int.natAbs_natCast]
    have hb1 : 1 ≤ β.natAbs := by omega
    have : w ^ (A.length + q.length + B.length) * (1 * (gh C w u).natAbs) ≤ w ^ (A.length + q.length + B.length) * (β.natAbs * (gh C w u).natAbs) := Nat.mul_le_mul_left _ (Nat.mul_le_mul_right _ hb1)
    rw [Nat.one_mul] at this
    omega
  have hPA : (0 : Int) < (w : Int) ^ (q.length + B.length + C.length) * α := Int.mul_pos (Int.pow_pos hwp) hα
  have hPC : (0 : Int) < (w : Int) ^ (A.length + q.length + B.length) * β := Int.mul_pos (Int.pow_pos hwp) hβ
  have e' : ((w : Int) ^ (q.length + B.length + C.length) * α) * gh A w u = (w : Int) ^ (A.length + C.length) * (gh q w u * gh B w u) - ((w : Int) ^ (A.length + q.length + B.length) * β) * gh C w u := by
    rw [Int.mul_assoc, Int.mul_assoc]; exact e
  have hmid' : ((w : Int) ^ (A.length + C.length) * (gh q w u * gh B w u)).natAbs < (((w : Int) ^ (A.length + q.length + B.length) * β) * gh C w u).natAbs := by rw [Int.mul_assoc]; exact hmid
  generalize (w : Int) ^ (A.length + C.length) * (gh q w u * gh B w u) = m at *
  generalize (w : Int) ^ (q.length + B.length + C.length) * α = a at *
  generalize (w : Int) ^ (A.length + q.length + B.length) * β = b at *
  generalize gh A w u = x at *
  generalize gh C w u = z at *
  rcases Int.lt_trichotomy z 0 with hz | hz | hz
  · have h1 := Int.mul_neg_of_pos_of_neg hPC hz
    have h2 : 0 < a * x := by omega
    have hx : 0 < x := by
      rcases Int.lt_trichotomy x 0 with k | k | k
      · have := Int.mul_neg_of_pos_of_neg hPA k; omega
      · rw [k, Int.mul_zero] at h2; omega
      · exact k
    exact Int.mul_neg_of_pos_of_neg hx hz
  · omega
  · have h1 := Int.mul_pos hPC hz
    have h2 : a * x < 0 := by omega
    have hx : x < 0 := by
      rcases Int.lt_trichotomy x 0 with k | k | k
      · exact k
      · rw [k, Int.mul_zero] at h2; omega
      · have := Int.mul_pos hPA k; omega
    exact Int.mul_neg_of_neg_of_pos hx hz
theorem der_go (l : List Int) (M c : Nat) : ∃ W, ∀ w, W ≤ w → ∀ u : Int, u.natAbs ≤ M * w → w ^ (pder l).length ≤ c * (gh (pder l) w u).natAbs → 0 < (gh l w (u + 1) - gh l w u) * gh (pder l) w u := by
  refine ⟨gF M l * c + 1, fun w hW u hu hc => ?_⟩
  have hw : 1 ≤ w := by omega
  have hw0 : (w : Int) ≠ 0 := by omega
  have hwp : (0 : Int) < (w : Int) := by omega
  have e := g1_der l hw0 u
  have hE := gh_der hu hw l
  have hD0 : 0 < (gh (pder l) w u).natAbs := Nat.pos_of_ne_zero fun e0 => by
    rw [e0, Nat.mul_zero] at hc
    have : 0 < w ^ (pder l).length := Nat.pow_pos (by omega)
    omega
  have hx : (gh l w (u + 1) - gh l w u) = g1 l w u + (gh l w (u + 1) - gh l w u - g1 l w u) := by omega
  generalize gh l w (u + 1) - gh l w u - g1 l w u = E at *
  rw [hx]
  generalize hdl : gh (pder l) w u = d at *
  have hlt : w ^ (pder l).length * (w * E.natAbs) < w ^ l.length * d.natAbs := by
    have s1 : w ^ (pder l).length * (E.natAbs * (w * w)) ≤ w ^ (pder l).length * (gF M l * w ^ l.length) := Nat.mul_le_mul_left _ hE
    have s2 : w ^ (pder l).length * (gF M l * w ^ l.length) ≤ (c * d.natAbs) * (gF M l * w ^ l.length) := Nat.mul_le_mul_right _ hc
    have t1 : (c * d.natAbs) * (gF M l * w ^ l.length) = (gF M l * c) * (w ^ l.length * d.natAbs) := by grind
    have hP : 0 < w ^ l.length * d.natAbs := Nat.mul_pos (Nat.pow_pos (by omega)) hD0
    have s3 : (gF M l * c + 1) * (w ^ l.length * d.natAbs) ≤ w * (w ^ l.length * d.natAbs) := Nat.mul_le_mul_right _ hW
    refine Nat.lt_of_mul_lt_mul_right (a := w) ?_
    have t2 : w ^ (pder l).length * (w * E.natAbs) * w = w ^ (pder l).length * (E.natAbs * (w * w)) := by grind
    have t3 : (gF M l * c + 1) * (w ^ l.length * d.natAbs) = (gF M l * c) * (w ^ l.length * d.natAbs) + w ^ l.length * d.natAbs := by grind
    have t4 : w * (w ^ l.length * d.natAbs) = w ^ l.length * d.natAbs * w := Nat.mul_comm _ _
    omega
  have hmid : ((w : Int) ^ (pder l).length * (w * E)).natAbs < ((w : Int) ^ l.length * d).natAbs := by
    simp only [Int.natAbs_mul, Int.natAbs_pow, Int.natAbs_natCast]
    exact hlt
  have hPA : (0 : Int) < (w : Int) ^ (pder l).length * w := Int.mul_pos (Int.pow_pos hwp) hwp
  have hPC : (0 : Int) < (w : Int) ^ l.length := Int.pow_pos hwp
  have e2 : ((w : Int) ^ (pder l).length * w) * (g1 l w u + E) = (w : Int) ^ l.length * d + (w : Int) ^ (pder l).length * (w * E) := by
    rw [← e]; grind
  generalize (w : Int) ^ (pder l).length * (w * E) = m at *
  generalize (w : Int) ^ (pder l).length * w = a at *
  generalize (w : Int) ^ l.length = b at *
  generalize g1 l w u + E = x at *
  rcases Int.lt_trichotomy d 0 with hz | hz | hz
  · have h1 := Int.mul_neg_of_pos_of_neg hPC hz
    have h2 : a * x < 0 := by omega
    have hx : x < 0 := by
      rcases Int.lt_trichotomy x 0 with k | k | k
      · exact k
      · rw [k, Int.mul_zero] at h2; omega
      · have := Int.mul_pos hPA k; omega
    exact Int.mul_pos_of_neg_of_neg hx hz
  · omega
  · have h1 := Int.mul_pos hPC hz
    have h2 : 0 < a * x := by omega
    have hx : 0 < x := by
      rcases Int.lt_trichotomy x 0 with k | k | k
      · have := Int.mul_neg_of_pos_of_neg hPA k; omega
      · rw [k, Int.mul_zero] at h2; omega
      · exact k
    exact Int.mul_pos hx hz
def vs : Int → List Int → Nat
  | _, [] => 0
  | t, x :: l => if x = 0 then vs t l else (if x * t < 0 then 1 else 0) + vs x l
theorem vs_sign {t t' : Int} (h : 0 < t * t') (l : List Int) : vs t l = vs t' l := by
  have key : ∀ x : Int, x * t < 0 ↔ x * t' < 0 := fun x => by
    rcases Int.lt_trichotomy t 0 with ht | ht | ht
    · have ht' : t' < 0 := Int.lt_of_not_ge fun h' => by have := Int.mul_nonpos_of_nonpos_of_nonneg (Int.le_of_lt ht) h'; omega
      constructor
      · intro h1
        have : 0 < x := Int.lt_of_not_ge fun h' => by have := Int.mul_nonneg_of_nonpos_of_nonpos h' (Int.le_of_lt ht); omega
        exact Int.mul_neg_of_pos_of_neg this ht'
      · intro h1
        have : 0 < x := Int.lt_of_not_ge fun h' => by have := Int.mul_nonneg_of_nonpos_of_nonpos h' (Int.le_of_lt ht'); omega
        exact Int.mul_neg_of_pos_of_neg this ht
    · rw [ht, Int.zero_mul] at h; omega
    · have ht' : 0 < t' := Int.lt_of_not_ge fun h' => by have := Int.mul_nonpos_of_nonneg_of_nonpos (Int.le_of_lt ht) h'; omega
      constructor
      · intro h1
        have : x < 0 := Int.lt_of_not_ge fun h' => by have := Int.mul_nonneg h' (Int.le_of_lt ht); omega
        exact Int.mul_neg_of_neg_of_pos this ht'
      · intro h1
        have : x < 0 := Int.lt_of_not_ge fun h' => by have := Int.mul_nonneg h' (Int.le_of_lt ht'); omega
        exact Int.mul_neg_of_neg_of_pos this ht
  induction l with
  | nil => rfl
  | cons x l ih =>
    simp only [vs]
    by_cases h0 : x = 0
    · rw [if_pos h0, if_pos h0, ih]
    · rw [if_neg h0, if_neg h0]
      by_cases h1 : x * t < 0
      · rw [if_pos h1, if_pos ((key x).1 h1)]
      · rw [if_neg h1, if_neg fun h2 => h1 ((key x).2 h2)]
inductive Reg : Int → Int → List (Int × Int) → Prop
  | nil {x y : Int} : Reg x y []
  | go {x y x1 y1 : Int} {l : List (Int × Int)} : 0 < x1 * y1 → Reg x1 y1 l → Reg x y ((x1, y1) :: l)
  | jump {x y x1 y1 x2 y2 : Int} {l : List (Int × Int)} : x * x2 < 0 → 0 < x2 * y2 → Reg x2 y2 l → Reg x y ((x1, y1) :: (x2, y2) :: l)
theorem vs_mid {x x1 x2 : Int} (h : x * x2 < 0) (l : List Int) : vs x (x1 :: x2 :: l) = 1 + vs x2 l := by
  have hx2 : x2 ≠ 0 := fun e => by rw [e, Int.mul_zero] at h; omega
  have hx : x ≠ 0 := fun e => by rw [e, Int.zero_mul] at h; omega
  have h' : x2 * x < 0 := by rw [Int.mul_comm]; exact h
  simp only [vs]
  rw [if_neg hx2, if_neg hx2, if_pos h']
  by_cases h0 : x1 = 0
  · rw [if_pos h0]
  · rw [if_neg h0]
    rcases Int.lt_trichotomy x 0 with k | k | k
    · have k2 : 0 < x2 := Int.lt_of_not_ge fun k' => by have := Int.mul_nonneg_of_nonpos_of_nonpos (Int.le_of_lt k) k'; omega
      rcases Int.lt_trichotomy x1 0 with k1 | k1 | k1
      · rw [if_neg (by have := Int.mul_pos_of_neg_of_neg k1 k; omega), if_pos (Int.mul_neg_of_pos_of_neg k2 k1)]; omega
      · exact absurd k1 h0
      · rw [if_pos (Int.mul_neg_of_pos_of_neg k1 k), if_neg (by have := Int.mul_pos k2 k1; omega)]; omega
    · exact absurd k hx
    · have k2 : x2 < 0 := Int.lt_of_not_ge fun k' => by have := Int.mul_nonneg (Int.le_of_lt k) k'; omega
      rcases Int.lt_trichotomy x1 0 with k1 | k1 | k1
      · rw [if_pos (Int.mul_neg_of_neg_of_pos k1 k), if_neg (by have := Int.mul_pos_of_neg_of_neg k2 k1; omega)]; omega
      · exact absurd k1 h0
      · rw [if_neg (by have := Int.mul_pos k1 k; omega), if_pos (Int.mul_neg_of_neg_of_pos k2 k1)]; omega
theorem reg_vs {x y : Int} {l : List (Int × Int)} (h : Reg x y l) (hxy : 0 < x * y) : vs x (l.map (·.1)) = vs y (l.map (·.2)) := by
  induction h with
  | nil => rfl
  | @go x y x1 y1 l h1 _ ih =>
    have ih := ih h1
    have n1 : x1 ≠ 0 := fun e => by rw [e, Int.zero_mul] at h1; omega
    have n2 : y1 ≠ 0 := fun e => by rw [e, Int.mul_zero] at h1; omega
    simp only [List.map_cons, vs]
    rw [if_neg n1, if_neg n2, ih]
    congr 1
    have key : x1 * x < 0 ↔ y1 * y < 0 := by
      have e : (x1 * x) * (y1 * y) = (x1 * y1) * (x * y) := by grind
      have hp : 0 < (x1 * x) * (y1 * y) := by rw [e]; exact Int.mul_pos h1 hxy
      constructor
      · intro h; exact Int.lt_of_not_ge fun k => by have := Int.mul_nonpos_of_nonpos_of_nonneg (Int.le_of_lt h) k; omega
      · intro h; exact Int.lt_of_not_ge fun k => by have := Int.mul_nonpos_of_nonneg_of_nonpos k (Int.le_of_lt h); omega
    by_cases k : x1 * x < 0
    · rw [if_pos k, if_pos (key.1 k)]
    · rw [if_neg k, if_neg fun k' => k (key.2 k')]
  | @jump x y x1 y1 x2 y2 l h1 h2 _ ih =>
    have ih := ih h2
    have h3 : y * y2 < 0 := by
      have e : (x * x2) * (y * y2) = (x * y) * (x2 * y2) := by grind
      have hp : 0 < (x * x2) * (y * y2) := by rw [e]; exact Int.mul_pos hxy h2
      exact Int.lt_of_not_ge fun k => by have := Int.mul_nonpos_of_nonpos_of_nonneg (Int.le_of_lt h1) k; omega
    simp only [List.map_cons]
    rw [vs_mid h1, vs_mid h3, ih]
theorem reg_head {x0 y0 x1 y1 : Int} {l : List (Int × Int)} (ht : x0 * y0 ≤ 0) (h1 : 0 < x1 * y1) (hd : 0 < (y0 - x0) * x1) (h : Reg x1 y1 l) :
    vs 0 (x0 :: x1 :: l.map (·.1)) = vs 0 (y0 :: y1 :: l.map (·.2)) + if x0 = 0 then 0 else 1 := by
  have e := reg_vs h h1
  have n1 : x1 ≠ 0 := fun e => by rw [e, Int.zero_mul] at h1; omega
  have n2 : y1 ≠ 0 := fun e => by rw [e, Int.mul_zero] at h1; omega
  simp only [vs, Int.mul_zero]
  rw [if_neg n1, if_neg n2, if_neg n1, if_neg n2, e]
  have hx : x0 * x1 ≤ 0 ∧ 0 ≤ y0 * y1 := by
    rcases Int.lt_trichotomy x1 0 with k | k | k
    · have k1 : y1 < 0 := Int.lt_of_not_ge fun k' => by have := Int.mul_nonpos_of_nonpos_of_nonneg (Int.le_of_lt k) k'; omega
      have k2 : y0 < x0 := Int.lt_of_not_ge fun k' => by have := Int.mul_nonpos_of_nonneg_of_nonpos (show 0 ≤ y0 - x0 by omega) (Int.le_of_lt k); omega
      have k3 : 0 ≤ x0 := Int.le_of_not_gt fun k' => by have := Int.mul_pos_of_neg_of_neg k' (show y0 < 0 by omega); omega
      have k4 : y0 ≤ 0 := Int.le_of_not_gt fun k' => by have := Int.mul_pos (show 0 < x0 by omega) k'; omega
      exact ⟨Int.mul_nonpos_of_nonneg_of_nonpos k3 (Int.le_of_lt k), Int.mul_nonneg_of_nonpos_of_nonpos k4 (Int.le_of_lt k1)⟩
    · exact absurd k n1
    · have k1 : 0 < y1 := Int.lt_of_not_ge fun k' => by have := Int.mul_nonpos_of_nonneg_of_nonpos (Int.le_of_lt k) k'; omega
      have k2 : x0 < y0 := Int.lt_of_not_ge fun k' => by have := Int.mul_nonpos_of_nonpos_of_nonneg (show y0 - x0 ≤ 0 by omega) (Int.le_of_lt k); omega
      have k3 : x0 ≤ 0 := Int.le_of_not_gt fun k' => by have := Int.mul_pos k' (show 0 < y0 by omega); omega
      have k4 : 0 ≤ y0 := Int.le_of_not_gt fun k' => by have := Int.mul_pos_of_neg_of_neg (show x0 < 0 by omega) k'; omega
      exact ⟨Int.mul_nonpos_of_nonpos_of_nonneg k3 (Int.le_of_lt k), Int.mul_nonneg k4 (Int.le_of_lt k1)⟩
  have hy' : ¬ y1 * y0 < 0 := by rw [Int.mul_comm]; omega
  have hX : (if x0 = 0 then (if x1 * 0 < 0 then 1 else 0) + vs y1 (l.map (·.2)) else (if x0 * 0 < 0 then 1 else 0) + ((if x1 * x0 < 0 then 1 else 0) + vs y1 (l.map (·.2)))) = vs y1 (l.map (·.2)) + if x0 = 0 then 0 else 1 := by
    by_cases h0 : x0 = 0
    · simp [h0]
    · have : x1 * x0 < 0 := by
        have h2 : x1 * x0 ≠ 0 := Int.mul_ne_zero n1 h0
        rw [Int.mul_comm] at h2 ⊢; omega
      simp [h0, this]; omega
  simp only [Int.mul_zero] at hX
  rw [hX]
  congr 1
  by_cases h0 : y0 = 0
  · simp [h0]
  · simp [h0, hy']
end Go.Proofs.YtjebljkoiaojaaaGreat
namespace Go.Proofs.YtjebljkoiaojaaaGreat
structure Chain (L : Nat → List Int) (r : Nat) : Prop where
  one : 1 ≤ r → L 1 = pder (L 0)
  rel : ∀ i, i + 1 < r → ∃ α β q, 0 < α ∧ 0 < β ∧ ∀ x, α * pev (L i) x = pev q x * pev (L (i + 1)) x - β * pev (L (i + 2)) x
  last : ∃ k, k ≠ 0 ∧ L r = [k]
theorem Chain.bez {L : Nat → List Int} {r : Nat} (h : Chain L r) : ∀ (e i : Nat), i + e + 1 = r → ∃ U V R, R ≠ 0 ∧ ∀ x, pev U x * pev (L i) x + pev V x * pev (L (i + 1)) x = R
  | 0, i, hi => by
    obtain ⟨k, hk, e⟩ := h.last
    refine ⟨[], [1], k, hk, fun x => ?_⟩
    have : L (i + 1) = [k] := by rw [← e, ← hi]
    rw [this]; simp [pev]
  | e + 1, i, hi => by
    obtain ⟨U, V, R, hR, hb⟩ := h.bez e (i + 1) (by omega)
    obtain ⟨α, β, q, hα, hβ, hr⟩ := h.rel i (by omega)
    refine ⟨ptim (-α) V, padd (ptim β U) (pmul V q), β * R, Int.mul_ne_zero (by omega) hR, fun x => ?_⟩
    have e1 := hb x
    have e2 := hr x
    rw [ev_ptim, ev_padd, ev_ptim, ev_pmul, ← e1]
    have : pev V x * (α * pev (L i) x) = pev V x * (pev q x * pev (L (i + 1)) x - β * pev (L (i + 2)) x) := by rw [e2]
    grind
theorem all_W {P : Nat → Nat → Prop} : ∀ {r : Nat}, (∀ i, i < r → ∃ W, ∀ w, W ≤ w → P i w) → ∃ W, ∀ w, W ≤ w → ∀ i, i < r → P i w
  | 0, _ => ⟨0, fun _ _ i hi => by omega⟩
  | r + 1, h => by
    obtain ⟨W1, h1⟩ := all_W fun i (hi : i < r) => h i (by omega)
    obtain ⟨W2, h2⟩ := h r (by omega)
    refine ⟨max W1 W2, fun w hw i hi => ?_⟩
    by_cases e : i = r
    · rw [e]; exact h2 w (by omega)
    · exact h1 w (by omega) i (by omega)
def vl (L : Nat → List Int) (w : Nat) (u : Int) : Nat → Nat → List (Int × Int)
  | _, 0 => []
  | i, e + 1 => (gh (L i) w u, gh (L i) w (u + 1)) :: vl L w u (i + 1) e
def vh (L : Nat → List Int) (w : Nat) (u : Int) : Nat → Nat → List Int
  | _, 0 => []
  | i, e + 1 => gh (L i) w u :: vh L w u (i + 1) e
theorem vl_fst (L : Nat → List Int) (w : Nat) (u : Int) : ∀ (e i : Nat), (vl L w u i e).map (·.1) = vh L w u i e
  | 0, _ => rfl
  | e + 1, i => by simp only [vl, vh, List.map_cons, vl_fst L w u e (i + 1)]
theorem vl_snd (L : Nat → List Int) (w : Nat) (u : Int) : ∀ (e i : Nat), (vl L w u i e).map (·.2) = vh L w (u + 1) i e
  | 0, _ => rfl
  | e + 1, i => by simp only [vl, vh, List.map_cons, vl_snd L w u e (i + 1)]
theorem Chain.cell {L : Nat → List Int} {r : Nat} (h : Chain L r) (M : Nat) : ∃ W, ∀ w, W ≤ w → ∀ u : Int, u.natAbs ≤ M * w →
    (¬ tch (L 0) w u → vs 0 (vh L w u 0 (r + 1)) = vs 0 (vh L w (u + 1) 0 (r + 1))) ∧
    (tch (L 0) w u → vs 0 (vh L w u 0 (r + 1)) = vs 0 (vh L w (u + 1) 0 (r + 1)) + (if gh (L 0) w u = 0 then 0 else 1) ∧ gh (L 0) w u ≠ gh (L 0) w (u + 1)) := by
  have hA : ∀ i, i < r → ∃ W, ∀ w, W ≤ w → ∀ u : Int, u.natAbs ≤ M * w → tch (L i) w u →
      (0 < gh (L (i + 1)) w u * gh (L (i + 1)) w (u + 1)) ∧ (∀ j, i = j + 1 → gh (L j) w u * gh (L (i + 1)) w u < 0) ∧ (i = 0 → 0 < (gh (L 0) w (u + 1) - gh (L 0) w u) * gh (L 1) w u) := fun i hi => by
    obtain ⟨U, V, R, hR, hb⟩ := h.bez (r - i - 1) i (by omega)
    obtain ⟨W1, h1⟩ := touch_far hR hb M
    cases i with
    | zero =>
      have e1 := h.one (by omega)
      obtain ⟨W2, h2⟩ := der_go (L 0) M (2 * gC M V)
      refine ⟨max W1 W2, fun w hw u hu ht => ?_⟩
      obtain ⟨a1, a2⟩ := h1 w (by omega) u hu ht
      refine ⟨a2, fun j hj => by omega, fun _ => ?_⟩
      rw [e1]
      rw [Nat.zero_add, e1] at a1
      exact h2 w (by omega) u hu a1
    | succ j =>
      obtain ⟨α, β, q, hα, hβ, hr⟩ := h.rel j (by omega)
      obtain ⟨W2, h2⟩ := rel_opp hα hβ hr M (2 * gC M V)
      refine ⟨max W1 W2, fun w hw u hu ht => ?_⟩
      obtain ⟨a1, a2⟩ := h1 w (by omega) u hu ht
      refine ⟨a2, fun j' hj => ?_, fun h0 => by omega⟩
      obtain rfl : j = j' := by omega
      exact h2 w (by omega) u hu ht a1
  obtain ⟨W, hW⟩ := all_W (P := fun i w => ∀ u : Int, u.natAbs ≤ M * w → tch (L i) w u →
      (0 < gh (L (i + 1)) w u * gh (L (i + 1)) w (u + 1)) ∧ (∀ j, i = j + 1 → gh (L j) w u * gh (L (i + 1)) w u < 0) ∧ (i = 0 → 0 < (gh (L 0) w (u + 1) - gh (L 0) w u) * gh (L 1) w u)) hA
  refine ⟨max W 1, fun w hw u hu => ?_⟩
  have hw1 : 1 ≤ w := by omega
  have hlast : ¬ tch (L r) w u := fun ht => by
    obtain ⟨k, hk, e⟩ := h.last
    unfold tch at ht
    rw [e] at ht
    simp only [gh, List.length_nil, Int.mul_zero, Int.add_zero] at ht
    have h1 : k * (w : Int) ^ (0 + 1) ≠ 0 := Int.mul_ne_zero hk (Int.pow_ne_zero (by omega))
    have h2 := Int.mul_self_nonneg' (k * (w : Int) ^ (0 + 1))
    have h3 := Int.mul_ne_zero h1 h1
    omega
  have reg : ∀ (e i : Nat), i + e = r → ¬ tch (L i) w u → Reg (gh (L i) w u) (gh (L i) w (u + 1)) (vl L w u (i + 1) e) := fun e => by
    induction e using Nat.strongRecOn with
    | ind e ih =>
      intro i hi ht
      cases e with
      | zero => exact .nil
      | succ e =>
        by_cases ht1 : tch (L (i + 1)) w u
        · have hne : i + 1 ≠ r := fun e' => hlast (e' ▸ ht1)
          obtain ⟨e, rfl⟩ : ∃ e', e = e' + 1 := ⟨e - 1, by omega⟩
          obtain ⟨a1, a2, _⟩ := hW w (by omega) (i + 1) (by omega) u hu ht1
          exact .jump (a2 i rfl) a1 (ih e (by omega) (i + 2) (by omega) (by unfold tch; show ¬ gh (L (i + 1 + 1)) w u * gh (L (i + 1 + 1)) w (u + 1) ≤ 0; omega))
        · exact .go (by unfold tch at ht1; omega) (ih e (by omega) (i + 1) (by omega) ht1)
  constructor
  · intro ht
    have h1 := reg_vs (reg r 0 (by omega) ht) (by unfold tch at ht; omega)
    rw [vl_fst, vl_snd] at h1
    have n1 : gh (L 0) w u ≠ 0 := fun e => ht (by unfold tch; rw [e, Int.zero_mul]; exact Int.le_refl _)
    have n2 : gh (L 0) w (u + 1) ≠ 0 := fun e => ht (by unfold tch; rw [e, Int.mul_zero]; exact Int.le_refl _)
    simp only [vh, vs, Int.mul_zero]
    rw [if_neg n1, if_neg n2, h1]
  · intro ht
    have hr0 : 0 < r := Nat.pos_of_ne_zero fun e => hlast (by rw [e]; exact ht)
    obtain ⟨a1, _, a3⟩ := hW w (by omega) 0 hr0 u hu ht
    have a3 := a3 rfl
    have hne : gh (L 0) w u ≠ gh (L 0) w (u + 1) := fun e => by rw [e, Int.sub_self, Int.zero_mul] at a3; omega
    refine ⟨?_, hne⟩
    obtain ⟨r', rfl⟩ : ∃ r', r = r' + 1 := ⟨r - 1, by omega⟩
    have h1 := reg_head ht a1 a3 (reg r' 1 (by omega) (by unfold tch; simp only [Nat.zero_add] at a1; omega))
    rw [vl_fst, vl_snd] at h1
    exact h1
where
  Int.mul_self_nonneg' (x : Int) : 0 ≤ x * x := by
    rcases Int.le_total 0 x with h | h
    · exact Int.mul_nonneg h h
    · exact Int.mul_nonneg_of_nonpos_of_nonpos h h
def vx (L : Nat → List Int) (x : Int) : Nat → Nat → List Int
  | _, 0 => []
  | i, e + 1 => pev (L i) x :: vx L x (i + 1) e
def sV (L : Nat → List Int) (r : Nat) (x : Int) : Nat := vs 0 (vx L x 0 (r + 1))
theorem vs_scale (L : Nat → List Int) {w : Nat} (hw : 1 ≤ w) (x : Int) : ∀ (e i : Nat) (t t' : Int), (t = 0 ∧ t' = 0) ∨ 0 < t * t' → vs t (vh L w ((w : Int) * x) i e) = vs t' (vx L x i e)
  | 0, _, _, _, _ => rfl
  | e + 1, i, t, t', ht => by
    have hp : (0 : Int) < (w : Int) ^ (L i).length := Int.pow_pos (by omega)
    simp only [vh, vx, vs]
    rw [gh_at]
    generalize (w : Int) ^ (L i).length = a at *
    generalize pev (L i) x = y at *
    by_cases h0 : y = 0
    · rw [if_pos h0, if_pos (by rw [h0, Int.mul_zero])]
      exact vs_scale L hw x e (i + 1) t t' ht
    · have h1 : a * y ≠ 0 := Int.mul_ne_zero (by omega) h0
      rw [if_neg h0, if_neg h1]
      have hyy : 0 < a * y * y := by
        rw [Int.mul_assoc]
        rcases Int.lt_trichotomy y 0 with k | k | k
        · exact Int.mul_pos hp (Int.mul_pos_of_neg_of_neg k k)
        · exact absurd k h0
        · exact Int.mul_pos hp (Int.mul_pos k k)
      rw [vs_scale L hw x e (i + 1) (a * y) y (.inr hyy)]
      congr 1
      rcases ht with ⟨h2, h3⟩ | h2
      · rw [h2, h3, Int.mul_zero, Int.mul_zero]
      · have key : a * y * t < 0 ↔ y * t' < 0 := by
          have e1 : (a * y * t) * (y * t') = (a * y * y) * (t * t') := by grind
          have hpp : 0 < (a * y * t) * (y * t') := by rw [e1]; exact Int.mul_pos hyy h2
          constructor
          · intro h; exact Int.lt_of_not_ge fun k => by have := Int.mul_nonpos_of_nonpos_of_nonneg (Int.le_of_lt h) k; omega
          · intro h; exact Int.lt_of_not_ge fun k => by have := Int.mul_nonpos_of_nonneg_of_nonpos k (Int.le_of_lt h); omega
        by_cases k : a * y * t < 0
        · rw [if_pos k, if_pos (key.1 k)]
        · rw [if_neg k, if_neg fun k' => k (key.2 k')]
theorem sV_grid (L : Nat → List Int) (r : Nat) {w : Nat} (hw : 1 ≤ w) (x : Int) : vs 0 (vh L w ((w : Int) * x) 0 (r + 1)) = sV L r x := vs_scale L hw x (r + 1) 0 0 0 (.inl ⟨rfl, rfl⟩)
def nc (s : List Int) (w : Nat) (u : Int) : Nat → Nat
  | 0 => 0
  | e + 1 => nc s w u e + if gh s w (u + e) * gh s w (u + e + 1) ≤ 0 ∧ gh s w (u + e) ≠ 0 then 1 else 0
theorem Chain.sturm {L : Nat → List Int} {r : Nat} (h : Chain L r) (M : Nat) : ∃ W, 1 ≤ W ∧ ∀ w, W ≤ w → (∀ (a : Int) (d : Nat), a.natAbs + d ≤ M → sV L r a = sV L r (a + d) + nc (L 0) w ((w : Int) * a) (w * d)) ∧
    ∀ u : Int, u.natAbs ≤ M * w → tch (L 0) w u → gh (L 0) w u ≠ gh (L 0) w (u + 1) := by
  obtain ⟨W, hW⟩ := h.cell M
  refine ⟨max W 1, by omega, fun w hw => ⟨fun a d had => ?_, fun u hu ht => ((hW w (by omega) u hu).2 ht).2⟩⟩
  have hw1 : 1 ≤ w := by omega
  have key : ∀ e, e ≤ w * d → vs 0 (vh L w ((w : Int) * a) 0 (r + 1)) = vs 0 (vh L w ((w : Int) * a + e) 0 (r + 1)) + nc (L 0) w ((w : Int) * a) e := fun e => by
    induction e with
    | zero => intro _; simp [nc]
    | succ e ih =>
      intro he
      have ih := ih (by omega)
      have hu : ((w : Int) * a + e).natAbs ≤ M * w := by
        have h1 := Int.natAbs_add_le ((w : Int) * a) (e : Int)
        rw [Int.natAbs_mul, Int.natAbs_natCast, Int.natAbs_natCast] at h1
        have h2 : w * (a.natAbs + d) ≤ w * M := Nat.mul_le_mul_left _ had
        rw [Nat.mul_add, Nat.mul_comm w M] at h2
        omega
      obtain ⟨c1, c2⟩ := hW w (by omega) _ hu
      rw [ih, nc]
      have e1 : (w : Int) * a + ((e + 1 : Nat) : Int) = (w : Int) * a + e + 1 := by omega
      rw [e1]
      by_cases ht : tch (L 0) w ((w : Int) * a + e)
      · rw [(c2 ht).1]
        by_cases h0 : gh (L 0) w ((w : Int) * a + e) = 0
        · rw [if_pos h0, if_neg fun h' => h'.2 h0]; omega
        · rw [if_neg h0, if_pos ⟨ht, h0⟩]; omega
      · rw [c1 ht, if_neg fun h' => ht h'.1]; omega
  have h1 := key (w * d) (Nat.le_refl _)
  rw [sV_grid L r hw1] at h1
  have e2 : (w : Int) * a + ((w * d : Nat) : Int) = (w : Int) * (a + d) := by rw [Int.natCast_mul]; grind
  rw [e2, sV_grid L r hw1] at h1
  exact h1
theorem Chain.less {L : Nat → List Int} {r : Nat} (h : Chain L r) {a b : Int} (hab : a < b) : sV L r b + (if pev (L 0) b = 0 then 1 else 0) ≤ sV L r a := by
  obtain ⟨d, hd⟩ : ∃ d : Nat, b = a + d := ⟨(b - a).toNat, by omega⟩
  have hd0 : 0 < d := by omega
  obtain ⟨W, hW1, hW⟩ := h.sturm (a.natAbs + d)
  obtain ⟨s1, s2⟩ := hW W (Nat.le_refl _)
  rw [hd, s1 a d (Nat.le_refl _)]
  split
  · rename_i h0
    obtain ⟨e, he⟩ : ∃ e, W * d = e + 1 := ⟨W * d - 1, by have := Nat.mul_pos (show 0 < W by omega) hd0; omega⟩
    rw [he, nc]
    have e1 : (W : Int) * a + e + 1 = (W : Int) * (a + d) := by
      have : ((W * d : Nat) : Int) = (e : Int) + 1 := by rw [he]; rfl
      rw [Int.natCast_mul] at this
      rw [Int.mul_add]; omega
    have e2 : gh (L 0) W ((W : Int) * a + e + 1) = 0 := by rw [e1, gh_at, h0, Int.mul_zero]
    have hu : ((W : Int) * a + e).natAbs ≤ (a.natAbs + d) * W := by
      have h1 := Int.natAbs_add_le ((W : Int) * a) (e : Int)
      rw [Int.natAbs_mul, Int.natAbs_natCast, Int.natAbs_natCast] at h1
      have h2 : (a.natAbs + d) * W = W * a.natAbs + W * d := by grind
      omega
    have ht : tch (L 0) W ((W : Int) * a + e) := by unfold tch; rw [e2, Int.mul_zero]; exact Int.le_refl _
    have hne := s2 _ hu ht
    rw [e2] at hne
    rw [if_pos ⟨by rw [e2, Int.mul_zero]; exact Int.le_refl _, hne⟩]
    omega
  · omega
theorem vs_par : ∀ (l : List Int) (t k : Int), t ≠ 0 → k ≠ 0 → vs t (l ++ [k]) % 2 = if t * k < 0 then 1 else 0
  | [], t, k, ht, hk => by
    simp only [List.nil_append, vs]
    rw [if_neg hk, Int.mul_comm k t]
    by_cases h : t * k < 0
    · simp [h]
    · simp [h]
  | x :: l, t, k, ht, hk => by
    simp only [List.cons_append, vs]
    by_cases h0 : x = 0
    · rw [if_pos h0]; exact vs_par l t k ht hk
    · rw [if_neg h0]
      have ih := vs_par l x k h0 hk
      have key : t * k < 0 ↔ (x * t < 0 ↔ ¬ x * k < 0) := by
        have n1 := Int.mul_ne_zero h0 ht
        have n2 := Int.mul_ne_zero h0 hk
        have n3 := Int.mul_ne_zero ht hk
        have hxx : 0 < x * x := by
          rcases Int.lt_trichotomy x 0 with k | k | k
          · exact Int.mul_pos_of_neg_of_neg k k
          · exact absurd k h0
          · exact Int.mul_pos k k
        have e : (x * t) * (x * k) = (x * x) * (t * k) := by grind
        constructor
        · intro h
          have h1 : (x * t) * (x * k) < 0 := by rw [e]; exact Int.mul_neg_of_pos_of_neg hxx h
          constructor
          · intro h2 h3; have := Int.mul_pos_of_neg_of_neg h2 h3; omega
          · intro h2
            have h3 : 0 < x * k := by omega
            exact Int.lt_of_not_ge fun k' => by have := Int.mul_nonneg k' (Int.le_of_lt h3); omega
        · intro h
          refine Int.lt_of_not_ge fun h' => ?_
          have h1 : 0 < (x * t) * (x * k) := by rw [e]; exact Int.mul_pos hxx (by omega)
          by_cases h2 : x * t < 0
          · have h3 := h.1 h2
            have := Int.mul_nonpos_of_nonpos_of_nonneg (Int.le_of_lt h2) (show 0 ≤ x * k by omega)
            omega
          · have h3 : x * k < 0 := Classical.byContradiction fun h3 => h2 (h.2 h3)
            have := Int.mul_nonpos_of_nonneg_of_nonpos (show 0 ≤ x * t by omega) (Int.le_of_lt h3)
            omega
      by_cases h1 : x * t < 0 <;> by_cases h2 : x * k < 0 <;> by_cases h3 : t * k < 0 <;> simp [h1, h2, h3] at key ih ⊢ <;> omega
open Go.RowKit
theorem index_wd {P : Program} {t e : TypeId} {v : Value} {m : List (List Int)} {k : IntKind} {i : Int} {os : List Own} {fs : List Fact} {K : Cont} [ht : TSl P t e 1] (hm : (v, wd m) ∈ fs) (j : Nat) (hj : i = (j : Int)) (hlt : j < m.length)
    (k' : ∀ p, K p os ((p, .ptr (vd (m.getD j []))) :: fs)) : IndexAddrK P t v (.int k i) os fs K :=
  index_fact hm j hj (by rw [List.length_map]; exact hlt) fun p => by
    have := k' p
    unfold vd at this
    rwa [← get_cn] at this
theorem index_vd {P : Program} {t e : TypeId} {v : Value} {l : List Int} {k : IntKind} {i : Int} {os : List Own} {fs : List Fact} {K : Cont} [ht : TSl P t e 2] (hm : (v, vd l) ∈ fs) (j : Nat) (hj : i = (j : Int)) (hlt : j < l.length)
    (k' : ∀ p, K p os ((p, .ptr (zd (l.getD j 0))) :: fs)) : IndexAddrK P t v (.int k i) os fs K :=
  index_fact hm j hj (by rw [List.length_map]; exact hlt) fun p => by
    have := k' p
    rw [map_cn_get hlt]; exact this
theorem len_wd {P : Program} {t e ty : TypeId} {v : Value} {m : List (List Int)} {os : List Own} {fs : List Fact} {K : Cont} [ht : TSl P t e 1] (hm : (v, wd m) ∈ fs) (k : K (.int .i64 m.length) os fs) : LenK P [t] ty v os fs K :=
  len_fact hm fun _ => by rw [List.length_map]; exact k
theorem len_vd {P : Program} {t e ty : TypeId} {v : Value} {l : List Int} {os : List Own} {fs : List Fact} {K : Cont} [ht : TSl P t e 2] (hm : (v, vd l) ∈ fs) (k : K (.int .i64 l.length) os fs) : LenK P [t] ty v os fs K :=
  len_fact hm fun _ => by rw [List.length_map]; exact k
theorem rMulZJ (v w : Value) (x : Int) (y : Bool × List Nat) (e : Nat) (hx : sz x e) (he : e ≤ 137438953472) (hy : Lim y.2) (ly : y.2.length ≤ 137438953472) :
    Meets Tryz.prog 41 [v, w] [(v, zd x), (w, J y)] (fun r os fs => os = [] ∧ fs = [(r, zd (x * jv y))]) := by
  have h := rZMul_meets v w (decide (x < 0)) y.1 (lims x.natAbs) y.2 (Lim_lims _) hy (Nat.le_trans hx.len he) ly
  rw [iv_zd] at h
  exact h
open Go.RowKit
theorem Meets.closed {P : Program} {g : FuncId} {args : List Value} {fs : List Fact} {R R' : Value → List Own → List Fact → Prop} (h : Meets P g args fs R)
    (hr : ∀ v os fs, R v os fs → ∃ os' fs', R' v os' fs' ∧ Seals os fs os' fs') : Meets P g args fs R' := by
  refine ⟨h.enter, fun A w hA hf => (h.calls A w hA hf).mono ?_⟩
  rintro e w' ⟨v, os', fs', he, hv, hh⟩
  obtain ⟨os2, fs2, h2, hs⟩ := hr v os' fs' hv
  exact ⟨v, os2, fs2, he, h2, hs _ _ hh⟩
theorem nrm_take {l : List Int} {n : Nat} (hn : n ≤ l.length) (hz : ∀ j, n ≤ j → l.getD j 0 = 0) (h : n = 0 ∨ l.getD (n - 1) 0 ≠ 0) : nrm l = l.take n := by
  have e : nrm l = nrm (l.take n) := nrm_ext fun i => by
    by_cases hi : i < n
    · simp [List.getD_eq_getElem?_getD, List.getElem?_take_of_lt hi]
    · rw [hz i (by omega)]
      have : (l.take n).length ≤ i := by rw [List.length_take]; omega
      rw [List.getD_eq_getElem?_getD, List.getElem?_eq_none this]; rfl
  rw [e]
  refine nrm_of_last ?_
  have hl : (l.take n).length = n := by rw [List.length_take]; omega
  rcases h with h | h
  · left; rw [h]; rfl
  · by_cases h0 : n = 0
    · left; rw [h0]; rfl
    · right
      rw [hl]
      simpa [List.getD_eq_getElem?_getD, List.getElem?_take_of_lt (show n - 1 < n by omega)] using h
theorem take_range (l : List Int) {n : Nat} (h : n ≤ l.length) : l.take n = (List.range n).map fun i => l.getD i 0 := by
  refine ext_getD' (by rw [List.length_take]; simp; omega) fun i hi => ?_
  rw [List.length_take] at hi
  have : i < n := by omega
  simp [List.getD_eq_getElem?_getD, List.getElem?_take_of_lt this, this]
where
  ext_getD' {l m : List Int} (hl : l.length = m.length) (h : ∀ i, i < l.length → l.getD i 0 = m.getD i 0) : l = m := row_eq_of_getD 0 hl h
theorem Seals.told {v : Value} {n : Nat} {g : Nat → Int} {e : Nat → Dat} {os : List Own} {fs : List Fact} (hv : isSl v) (he : ∀ i, i < n → e i = zd (g i)) :
    Seals (own1 v 2 n e :: os) fs os ((v, vd ((List.range n).map g)) :: fs) :=
  Seals.trans (Seals.slice (os := own1 v 2 n e :: os) 0 (fun i => J ((((List.range n).map g).map cn).getD i z0)) rfl hv fun i hi => by rw [he i hi, range_cn g hi]; rfl)
    (Seals.cons (Knw.vd_of (Knw.fact (List.Mem.head _))) (Seals.sub fun _ hF => .tail _ hF))
theorem Seals.toldL {v : Value} {l : List Int} {os : List Own} {fs : List Fact} (hv : isSl v) : Seals (ownL 2 J z0 v (l.map cn) :: os) fs os ((v, vd l) :: fs) := Seals.L (os := ownL 2 J z0 v (l.map cn) :: os) 0 rfl hv
theorem own_range {v : Value} {n : Nat} {g : Nat → Int} {e : Nat → Dat} {os : List Own} {fs : List Fact} (he : ∀ i, i < n → e i = zd (g i)) :
    Seals (own1 v 2 n e :: os) fs (ownL 2 J z0 v (((List.range n).map g).map cn) :: os) fs := by
  have h := Seals.own_cong (os := own1 v 2 n e :: os) (fs := fs) 0 (n' := (((List.range n).map g).map cn).length) (fun i => J ((((List.range n).map g).map cn).getD i z0)) rfl (by simp) fun i hi => by rw [he i hi, range_cn g hi]; rfl
  exact h
theorem zero_zd : I false [] = zd 0 := zd_zero.symm
theorem upd_if {g : Nat → Int} {i : Nat} (y : Nat) : upd (fun y => if y < i then zd (g y) else I false []) i (zd (g i)) y = if y < i + 1 then zd (g y) else I false [] := by
  unfold upd
  by_cases hy : y = i
  · subst hy
    rw [if_pos rfl, if_pos (by omega)]
  · by_cases hy2 : y < i
    · rw [if_neg hy, if_pos (show y < i + 1 by omega)]; exact if_pos hy2
    · rw [if_neg hy, if_neg (show ¬ y < i + 1 by omega)]; exact if_neg hy2
theorem pNormO_meets (v : Value) (p : Row) (hp : Fit 137438953472 p) (lp : p.length ≤ 1099511627776) :
    Meets Tryz.prog 55 [v] [(v, V p)] (fun r os fs => isSl r ∧ os = [ownL 2 J z0 r ((nrm (vv p)).map cn)] ∧ fs = []) := by
  refine meets_of_vc Tryz.func55 (by kernel_rfl) rfl (by kernel_rfl) (Nat.le_of_ble_eq_true rfl) ?_
  refine len_fact qM fun _ => ?_
  refine loop_rule (X := Nat) (fun n => ([(0, v), (3, .int .i64 (n : Nat))], [], [(v, V p)])) (fun n => n ≤ p.length ∧ ∀ j, n ≤ j → j < p.length → (vv p).getD j 0 = 0) (fun n => n) rfl ?_ ?_
  · exact again p.length ⟨Nat.le_refl _, fun j h1 h2 => by omega⟩ trivial qF (Seals.sub qS)
  · rintro n ⟨h1, h2⟩
    have fin' : (n = 0 ∨ (vv p).getD (n - 1) 0 ≠ 0) → nrm (vv p) = (List.range n).map fun i => (vv p).getD i 0 := fun h => by
      rw [nrm_take (by rw [vv_len]; exact h1) (fun j hj => ?_) h, take_range _ (by rw [vv_len]; exact h1)]
      by_cases e : j < p.length
      · exact h2 j hj e
      · rw [List.getD_eq_getElem?_getD, List.getElem?_eq_none (by rw [vv_len]; omega)]; rfl
    refine cmp_split _ rfl (fun hn => ?_) (fun hn => ?_)
    · have hn' : n - 1 < p.length := by omega
      have hg := vv_get p (n - 1) hn'
      refine ar rfl qI ?_
      refine index_fact qM (n - 1) (by omega) hn' fun a1 => ?_
      refine load_fact (d := J (p.getD (n - 1) z0)) qM (load_J _) fun x1 => ?_
      refine call_fn (zsign_meets x1 (p.getD (n - 1) z0).1 (p.getD (n - 1) z0).2 (hp.get _).1 (hp.get _).2) (Seals.refl _ _) qS ?_
      rintro _ _ _ ⟨rfl, rfl, rfl⟩
      refine cmp_split _ rfl (fun hz => ?_) (fun hz => ?_)
      · refine ar rfl qI ?_
        refine again (n - 1) ⟨by omega, fun j h3 h4 => ?_⟩ (by simp only; omega) qF (Seals.sub qS)
        by_cases e : j = n - 1
        · rw [e, hg]; exact Int.sign_eq_zero_iff_zero.1 hz
        · exact h2 j (by omega) h4
      · have hfin := fin' (.inr (by rw [hg]; exact fun e => hz (Int.sign_eq_zero_iff_zero.2 e)))
        refine make_rule (t := 23) (d := I false []) n rfl rfl (by omega) (by omega) fun u hu => ?_
        refine loop_rule (X := Nat) (fun i => ([(0, v), (3, .int .i64 (n : Nat)), (4, u), (23, .int .i64 (n : Nat)), (24, .int .i64 (i : Nat))], [own1 u 2 n (fun y => if y < i then zd ((vv p).getD y 0) else I false [])], [(v, V p)])) (fun i => i ≤ n) (fun i => n - i) rfl ?_ ?_
        · exact again 0 (Nat.zero_le _) trivial qF (Seals.trans (Seals.own_cong (os := [_]) 0 _ rfl rfl fun y _ => (if_neg (Nat.not_lt_zero _)).symm) (Seals.sub qS))
        · rintro i hi
          refine cmp_split _ rfl (fun hlt => ?_) (fun hlt => ?_)
          · have hin : i < n := by omega
            have hpi := hp.get i
            have hgi := vv_get p i (by omega)
            refine index_fact (n := p.length) qM i rfl (by omega) fun b1 => ?_
            refine load_fact (d := J (p.getD i z0)) qM (load_J _) fun y1 => ?_
            have hnm := znorm_meets y1 (p.getD i z0).1 (p.getD i z0).2 hpi.1 (by omega)
            rw [show iv (p.getD i z0).1 (p.getD i z0).2 = (vv p).getD i 0 from hgi.symm] at hnm
            refine call_fn hnm (Seals.refl _ _) qS ?_
            rintro y2 _ _ ⟨rfl, rfl⟩
            refine index_elem 0 rfl hu i rfl hin ?_
            refine StoreK.post (store_elem (d := zd ((vv p).getD i 0)) 0 rfl i hin rfl (by kernel_rfl) (Reads.fact qM) ⟨_, _, Seals.own_cong (os := [_]) 0 (fun y => if y < i + 1 then zd ((vv p).getD y 0) else I false []) rfl rfl (fun y _ => upd_if y), ?_⟩)
            refine ar rfl qI ?_
            exact again (i + 1) (by omega) (by simp only; omega) qF (Seals.sub qS)
          · refine fin ⟨hu, rfl, rfl⟩ (Seals.trans (own_range (g := fun i => (vv p).getD i 0) fun y hy => if_pos (by omega)) ?_)
            rw [hfin]
            exact Seals.nil _ _
    · have hfin := fin' (.inl (by omega))
      refine make_rule (t := 23) (d := I false []) n rfl rfl (by omega) (by omega) fun u hu => ?_
      refine loop_rule (X := Nat) (fun i => ([(0, v), (3, .int .i64 (n : Nat)), (4, u), (23, .int .i64 (n : Nat)), (24, .int .i64 (i : Nat))], [own1 u 2 n (fun y => if y < i then zd ((vv p).getD y 0) else I false [])], [(v, V p)])) (fun i => i ≤ n) (fun i => n - i) rfl ?_ ?_
      · exact again 0 (Nat.zero_le _) trivial qF (Seals.trans (Seals.own_cong (os := [_]) 0 _ rfl rfl fun y _ => (if_neg (Nat.not_lt_zero _)).symm) (Seals.sub qS))
      · rintro i hi
        refine cmp_split _ rfl (fun hlt => ?_) (fun hlt => ?_)
        · have hin : i < n := by omega
          have hpi := hp.get i
          have hgi := vv_get p i (by omega)
          refine index_fact (n := p.length) qM i rfl (by omega) fun b1 => ?_
          refine load_fact (d := J (p.getD i z0)) qM (load_J _) fun y1 => ?_
          have hnm := znorm_meets y1 (p.getD i z0).1 (p.getD i z0).2 hpi.1 (by omega)
          rw [show iv (p.getD i z0).1 (p.getD i z0).2 = (vv p).getD i 0 from hgi.symm] at hnm
          refine call_fn hnm (Seals.refl _ _) qS ?_
          rintro y2 _ _ ⟨rfl, rfl⟩
          refine index_elem 0 rfl hu i rfl hin ?_
          refine StoreK.post (store_elem (d := zd ((vv p).getD i 0)) 0 rfl i hin rfl (by kernel_rfl) (Reads.fact qM) ⟨_, _, Seals.own_cong (os := [_]) 0 (fun y => if y < i + 1 then zd ((vv p).getD y 0) else I false []) rfl rfl (fun y _ => upd_if y), ?_⟩)
          refine ar rfl qI ?_
          exact again (i + 1) (by omega) (by simp only; omega) qF (Seals.sub qS)
        · refine fin ⟨hu, rfl, rfl⟩ (Seals.trans (own_range (g := fun i => (vv p).getD i 0) fun y hy => if_pos (by omega)) ?_)
          rw [hfin]
          exact Seals.nil _ _
end Go.Proofs.YtjebljkoiaojaaaGreat
