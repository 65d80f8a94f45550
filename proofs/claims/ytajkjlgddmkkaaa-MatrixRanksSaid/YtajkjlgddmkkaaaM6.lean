/- The law MatrixRanks is true of each input, and changes none. No condition. -/
import Derived.Test.YtajkjlgddmkkaaaM5
import Derived.Test.YtajkjlgddmkkaaaRows
import Derived.OpenShut
import Derived.Below
import Derived.Lib.SmallJoins
set_option linter.unusedVariables false
set_option linter.unusedSimpArgs false

namespace Go.Proofs.Ytajkjlgddmkkaaa
open Go.RowKit

theorem rankT (v : Value) (a : List Row) (p q e n : Nat) (X : Mx) (ha : ww a = matL p q X) (hra : right a) (fa : Fits e a) (hp : 0 < p) (lp : p ≤ 1000) (lq : q ≤ 1000) (hE : Eb e q ≤ 17179869184) (hk : Rk n p q X) :
    Meets Try.prog 18 [v] [(v, W a)] (fun z os fs => os = [] ∧ fs = [] ∧ z = .tuple #[.int .i64 (n : Nat), .int .i64 0]) := by
  have la : a.length = p := by rw [← ww_len, ha, matL_len]
  have ca : (a.getD 0 []).length = q := by rw [← vv_len, ← ww_get, ha, matL_row X hp]; simp
  have h := mRank_meets v a e fa (by omega) (by omega) (by rw [ca]; exact hE)
  have hn : (bar p q (mx (ww a))).step = n := (bar_rank p q (mx (ww a))).unique (hk.congr fun i k hi hk => by rw [ha]; exact (mx_matL X hi hk).symm)
  rw [if_pos hra, if_pos hra, la, ca, hn] at h
  exact h

theorem rSubJZ (v w : Value) (x : Bool × List Nat) (y : Int) (e : Nat) (hx : Lim x.2) (lx : x.2.length ≤ 137438953472) (hy : sz y e) (he : e ≤ 137438953472) :
    Meets Try.prog 43 [v, w] [(v, J x), (w, zd y)] (fun r os fs => os = [] ∧ fs = [(r, zd (jv x - y))]) := by
  have h := rZSub_meets v w x.1 (decide (y < 0)) x.2 (lims y.natAbs) hx (Lim_lims _) lx (Nat.le_trans hy.len he)
  rw [iv_zd] at h
  exact h

/-- A row more. -/
theorem Seals.longer {v : Value} {vs vs2 : Nat → Value} {a : List Row} {lst : Row} {u : Value} {os : List Own} {fs : List Fact} (hv : isSl v) (hs : ∀ i, i < a.length → isSl (vs i)) (h1 : ∀ i, i < a.length → vs2 i = vs i) (h2 : vs2 a.length = u) (hu : (u, V lst) ∈ fs) :
    Seals (famR vs a :: outer v (a.length + 1) vs2 :: os) fs os ((v, W (a ++ [lst])) :: fs) := by
  refine Seals.trans (Seals.fam (os := famR vs a :: outer v (a.length + 1) vs2 :: os) 0 rfl hs) ?_
  refine Seals.trans (Seals.over (os := outer v (a.length + 1) vs2 :: os) (vs := vs2) (D := fun i => V ((a ++ [lst]).getD i [])) 0 rfl hv fun i hi => ⟨?_, rfl⟩) ?_
  · by_cases e : i < a.length
    · refine List.mem_append.2 (.inl (List.mem_map.2 ⟨i, List.mem_range.2 e, ?_⟩))
      have eg : (a ++ [lst]).getD i [] = a.getD i [] := by simp [List.getD_eq_getElem?_getD, List.getElem?_append_left e]
      rw [h1 i e, eg]; rfl
    · have e2 : i = a.length := by omega
      refine List.mem_append.2 (.inr ?_)
      have eg : (a ++ [lst]).getD i [] = lst := by rw [e2]; simp [List.getD_eq_getElem?_getD]
      rw [eg, e2, h2]; exact hu
  · refine Seals.cons ((Knw.fact (List.Mem.head _)).cast ?_) (Seals.sub fun F hF => .tail _ (List.mem_append.2 (.inr hF)))
    unfold W LD; simp

theorem Seals.longer2 {v : Value} {vs : Nat → Value} {a : List Row} {lst : Row} {u : Value} {os : List Own} {fs : List Fact} (hv : isSl v) (hs : ∀ i, i < a.length → isSl (vs i)) (hu : (u, V lst) ∈ fs) :
    Seals (famR vs a :: own1 v 1 (a.length + 1) (fun i => if i < a.length then .one (vs i) else .one (([u] : List Value).getD (i - a.length) undef)) :: os) fs os ((v, W (a ++ [lst])) :: fs) := by
  refine Seals.trans (Seals.own_cong (os := famR vs a :: own1 v 1 (a.length + 1) (fun i => if i < a.length then .one (vs i) else .one (([u] : List Value).getD (i - a.length) undef)) :: os) 1 (n' := a.length + 1) (fun i => .one (if i < a.length then vs i else u)) rfl rfl fun i hi => ?_)
    (Seals.longer (vs := vs) (vs2 := fun i => if i < a.length then vs i else u) hv hs (fun i hi => if_pos hi) (if_neg (Nat.lt_irrefl _)) hu)
  by_cases e : i < a.length
  · rw [if_pos e, if_pos e]
  · rw [if_neg e, if_neg e, show i - a.length = 0 by omega]; rfl

theorem getD_app_left {a : List Row} (l : Row) {i : Nat} (h : i < a.length) : (a ++ [l]).getD i [] = a.getD i [] := by
  simp only [List.getD_eq_getElem?_getD, List.getElem?_append_left h]

theorem Rk.longer {n p q : Nat} {X X' : Mx} (h : Rk n p q X) (hp : 0 < p) (h1 : ∀ i k, i < p → k < q → X' i k = X i k) (h2 : ∀ k, k < q → X' p k = X 0 k - 3 * X (p - 1) k) : Rk n (p + 1) q X' := by
  refine ⟨h.lo.more one fun i k hi hk => ?_, h.up.more (fun i t => if i < p then one i t else one 0 t - 3 * one (p - 1) t) fun i k hi hk => ?_⟩
  · rw [one_mul _ (by omega), h1 i k hi hk]
  · by_cases e : i < p
    · rw [h1 i k e hk]
      unfold mm
      rw [isum_one (r := i) e fun t _ ht => by dsimp only; rw [if_pos e]; simp [one, Ne.symm ht]]
      dsimp only
      rw [if_pos e]; simp [one]
    · have e2 : i = p := by omega
      subst e2
      rw [h2 k hk]
      have e3 : mm i (fun a t => if a < i then one a t else one 0 t - 3 * one (i - 1) t) X i k = isum (fun t => one 0 t * X t k) i - 3 * isum (fun t => one (i - 1) t * X t k) i := by
        unfold mm
        have := isum_lin 1 (-3) (fun t => one 0 t * X t k) (fun t => one (i - 1) t * X t k) i
        rw [show isum (fun t => one 0 t * X t k) i - 3 * isum (fun t => one (i - 1) t * X t k) i = 1 * isum (fun t => one 0 t * X t k) i + -3 * isum (fun t => one (i - 1) t * X t k) i by omega, ← this]
        refine isum_congr fun t _ => ?_
        dsimp only
        rw [if_neg (Nat.lt_irrefl i)]; grind
      rw [e3]
      have f1 : isum (fun t => one 0 t * X t k) i = X 0 k := one_mul (n := i) X (i := 0) hp
      have f2 : isum (fun t => one (i - 1) t * X t k) i = X (i - 1) k := one_mul (n := i) X (i := i - 1) (by omega)
      rw [f1, f2]

theorem ranks_meets (v w : Value) (a b : List Row) (ha : limM a) (hb : limM b) :
    Meets Try.prog 11 [v, w] [(v, W a), (w, W b)] (fun r os fs => os = [] ∧ fs = [] ∧ r = .bool true) := by
  refine meets_of_vc Try.func11 (by kernel_rfl) rfl (by kernel_rfl) (Nat.le_of_ble_eq_true rfl) ?_
  refine call_fn shown_meets (Seals.refl _ _) (by repeat (first | exact Sub.nil _ | refine Sub.cons (by repeat (first | exact List.Mem.head _ | apply List.Mem.tail)) ?_)) ?_
  rintro _ _ _ ⟨rfl, rfl, rfl⟩
  refine call_fn (rowsFits_meets v a 6 6 1) (Seals.refl _ _) (by repeat (first | exact Sub.nil _ | refine Sub.cons (by repeat (first | exact List.Mem.head _ | apply List.Mem.tail)) ?_)) ?_
  rintro _ _ _ ⟨rfl, rfl, rfl⟩
  by_cases hsa : small 6 6 1 a
  case neg =>
    rw [decide_eq_false hsa]
    exact fin ⟨rfl, rfl, rfl⟩ (Seals.nil _ _)
  rw [decide_eq_true hsa]
  refine call_fn (rowsFits_meets w b 6 6 1) (Seals.refl _ _) (by repeat (first | exact Sub.nil _ | refine Sub.cons (by repeat (first | exact List.Mem.head _ | apply List.Mem.tail)) ?_)) ?_
  rintro _ _ _ ⟨rfl, rfl, rfl⟩
  by_cases hsb : small 6 6 1 b
  case neg =>
    rw [decide_eq_false hsb]
    exact fin ⟨rfl, rfl, rfl⟩ (Seals.nil _ _)
  rw [decide_eq_true hsb]
  have hfa := hsa.fits ha
  have hfb := hsb.fits hb
  have hca := hsa.cols
  have hcb := hsb.cols
  have hla := hsa.1
  have hlb := hsb.1
  by_cases hra : right a
  case neg =>
    refine call_fn (mRank_meets v a 1 hfa (by omega) (by omega) (Nat.le_trans (Eb_mono 1 hca) (by decide))) (Seals.refl _ _) (by repeat (first | exact Sub.nil _ | refine Sub.cons (by repeat (first | exact List.Mem.head _ | apply List.Mem.tail)) ?_)) ?_
    rintro _ _ _ ⟨rfl, rfl, rfl⟩
    rw [if_neg hra, if_neg hra]
    refine cmp_true rfl (by decide) ?_
    refine cmp_true rfl rfl ?_
    refine cmp_true rfl rfl ?_
    exact fin ⟨rfl, rfl, rfl⟩ (Seals.nil _ _)
  have hA := ww_matL hra
  have hp : 0 < a.length := hra.1
  have hq : 0 < (a.getD 0 []).length := (hra.get hra.1).1
  have hXs : ∀ i j, sz (mx (ww a) i j) 1 := fun i j => mx_at hfa i j
  have hlen : ∀ i, i < a.length → (a.getD i []).length = (a.getD 0 []).length := fun i hi => (hra.get hi).2
  have hat : ∀ i j, i < a.length → j < (a.getD 0 []).length → mx (ww a) i j = jv ((a.getD i []).getD j z0) := fun i j hi hj => by
    unfold mx; rw [ww_get, vv_get _ _ (by rw [hlen i hi]; exact hj)]
  obtain ⟨X, hX⟩ : ∃ X, mx (ww a) = X := ⟨_, rfl⟩
  rw [hX] at hA hXs hat
  obtain ⟨p, hp'⟩ : ∃ p, a.length = p := ⟨_, rfl⟩
  obtain ⟨q, hq'⟩ : ∃ q, (a.getD 0 []).length = q := ⟨_, rfl⟩
  have hrk := bar_rank p q X
  obtain ⟨n, hn⟩ : ∃ n, (bar p q X).step = n := ⟨_, rfl⟩
  rw [hn] at hrk
  rw [hp', hq'] at hA
  rw [hp'] at hp hla hlen hat
  rw [hq'] at hq hca hlen hat
  have hTs : ∀ i j, i < q → j < p → sz (tp X i j) 1 := fun i j _ _ => hXs j i
  refine call_fn (rankT v a p q 1 n X hA hra hfa hp (by omega) (by omega) (Nat.le_trans (Eb_mono 1 hca) (by decide)) hrk) (Seals.refl _ _) (by repeat (first | exact Sub.nil _ | refine Sub.cons (by repeat (first | exact List.Mem.head _ | apply List.Mem.tail)) ?_)) ?_
  rintro _ _ _ ⟨rfl, rfl, rfl⟩
  refine cmp_false rfl (fun h => h rfl) ?_
  refine call_fn (turnT v a p q 1 X hA hra hfa (by omega) hp (by omega) (by omega)) (Seals.refl _ _) (by repeat (first | exact Sub.nil _ | refine Sub.cons (by repeat (first | exact List.Mem.head _ | apply List.Mem.tail)) ?_)) ?_
  rintro _ _ _ ⟨rfl, t, rfl, rfl⟩
  refine call_fn (rankT t (toR (matL q p (tp X))) q p 1 n (tp X) (ww_cn _) (matL_right _ hq hp) (mat_fits hTs) hq (by omega) (by omega) (Nat.le_trans (Eb_mono 1 hla) (by decide)) hrk.tr) (Seals.refl _ _) (by repeat (first | exact Sub.nil _ | refine Sub.cons (by repeat (first | exact List.Mem.head _ | apply List.Mem.tail)) ?_)) ?_
  rintro _ _ _ ⟨rfl, rfl, rfl⟩
  refine empty_L J z0 (by decide) fun l0 hl0 => ?_
  obtain ⟨g, hg⟩ : ∃ g : Nat → Int, ∀ k, g k = X 0 k - 3 * X (p - 1) k := ⟨_, fun _ => rfl⟩
  have hgs : ∀ k, sz (g k) 3 := fun k => by rw [hg]; exact sz_sub ((hXs 0 k).mono (by decide)) (sz.mul (show sz 3 1 by decide) (hXs (p - 1) k))
  obtain ⟨lst, hlst0⟩ : ∃ lst : Row, (List.range q).map (fun j => cn (g j)) = lst := ⟨_, rfl⟩
  have hll : lst.length = q := by rw [← hlst0]; simp
  have hlst : vv lst = (List.range q).map g := by
    have : lst = ((List.range q).map g).map cn := by rw [← hlst0]; simp [Function.comp_def]
    rw [this, vv_cn]
  have hfl : Fit 3 lst := fun x hx => by
    rw [← hlst0] at hx
    obtain ⟨j, _, rfl⟩ := List.mem_map.1 hx
    exact ⟨Lim_lims _, (hgs j).len⟩
  have hR : right (a ++ [lst]) := by
    have e0 : (a ++ [lst]).getD 0 [] = a.getD 0 [] := getD_app_left _ (by omega)
    refine ⟨by simp, fun r hr => ?_⟩
    rw [e0]
    rcases List.mem_append.1 hr with hr | hr
    · exact hra.2 r hr
    · rw [List.mem_singleton.1 hr, hll, hq']; exact ⟨hq, rfl⟩
  have hF : Fits 3 (a ++ [lst]) := fun r hr => by
    rcases List.mem_append.1 hr with hr | hr
    · exact (hfa.mono (by decide)) r hr
    · rw [List.mem_singleton.1 hr]; exact hfl
  have hW := ww_matL hR
  have hl1 : (a ++ [lst]).length = p + 1 := by simp [hp']
  have hc1 : ((a ++ [lst]).getD 0 []).length = q := by
    have e0 : (a ++ [lst]).getD 0 [] = a.getD 0 [] := getD_app_left _ (by omega)
    rw [e0, hq']
  rw [hl1, hc1] at hW
  have hk2 : Rk n (p + 1) q (mx (ww (a ++ [lst]))) := by
    refine hrk.longer hp (fun i j hi hj => ?_) fun j hj => ?_
    · rw [← hX]
      unfold mx
      rw [ww_get, ww_get]
      have : (a ++ [lst]).getD i [] = a.getD i [] := getD_app_left _ (by omega)
      rw [this]
    · unfold mx
      rw [ww_get]
      have : (a ++ [lst]).getD p [] = lst := by rw [← hp']; simp [List.getD_eq_getElem?_getD]
      rw [this, hlst, range_get g hj, hg]
  refine loop_rule (X := Nat × Value) (fun x => ([(0, v), (1, w), (5, .bool true), (6, .int .i64 (n : Nat)), (10, .int .i64 (n : Nat)), (11, .int .i64 0), (12, x.2), (13, .int .i64 (x.1 : Nat))], [ownL 2 J z0 x.2 ((List.range x.1).map fun k => cn (g k))], [(v, W a), (w, W b)]))
    (fun x => x.1 ≤ q ∧ isSl x.2) (fun x => q - x.1) rfl ?_ ?_
  · exact again (0, l0) ⟨Nat.zero_le _, hl0⟩ trivial (by repeat (first | exact trivial | refine ⟨rfl, ?_⟩ | refine ⟨i64_eq (by first | omega | (simp only; omega)), ?_⟩ | refine ⟨u64_eq (by first | omega | (simp only; omega)), ?_⟩)) (Seals.sub (by repeat (first | exact Sub.nil _ | refine Sub.cons (by repeat (first | exact List.Mem.head _ | apply List.Mem.tail)) ?_)))
  · rintro ⟨k, l0⟩ ⟨hk1, hl0⟩
    simp only at hk1 hl0 ⊢
    refine index_fact (n := a.length) (by repeat (first | exact List.Mem.head _ | apply List.Mem.tail)) 0 rfl (by omega) fun i1 => ?_
    refine load_fact (d := V (a.getD 0 [])) (by repeat (first | exact List.Mem.head _ | apply List.Mem.tail)) (load_V _) fun i2 => ?_
    refine len_fact (n := (a.getD 0 []).length) (by repeat (first | exact List.Mem.head _ | apply List.Mem.tail)) fun _ => ?_
    refine cmp_split _ rfl (fun hk => ?_) (fun hk => ?_)
    · have hkq : k < q := by omega
      have hx0 := (hfa.get 0).get k
      have hx1 := (hfa.get (p - 1)).get k
      refine draw_rule [0, 1, 2, 3, 4, 5, 6, 8, 9, 10, 11, 12, 13, 14, 15, 16, 7, 17, 18, 19, 20, 21] [0, 1, 2, 3, 4, 5, 6, 7, 8, 9, 10, 11, 12, 13, 14, 15, 16, 17, 18, 19, 20, 21] (by kernel_rfl) (by kernel_rfl) ?_
      refine index_fact (n := a.length) (by repeat (first | exact List.Mem.head _ | apply List.Mem.tail)) 0 rfl (by omega) fun i3 => ?_
      refine load_fact (d := V (a.getD 0 [])) (by repeat (first | exact List.Mem.head _ | apply List.Mem.tail)) (load_V _) fun i4 => ?_
      refine index_fact (n := (a.getD 0 []).length) (by repeat (first | exact List.Mem.head _ | apply List.Mem.tail)) k rfl (by omega) fun i5 => ?_
      refine load_fact (d := J ((a.getD 0 []).getD k z0)) (by repeat (first | exact List.Mem.head _ | apply List.Mem.tail)) (load_J _) fun y1 => ?_
      refine len_fact (n := a.length) (by repeat (first | exact List.Mem.head _ | apply List.Mem.tail)) fun _ => ?_
      refine ar rfl (by first | exact ⟨by omega, by omega⟩ | (simp only [inK]; omega)) ?_
      refine index_fact (n := a.length) (by repeat (first | exact List.Mem.head _ | apply List.Mem.tail)) (p - 1) (by omega) (by omega) fun i6 => ?_
      refine load_fact (d := V (a.getD (p - 1) [])) (by repeat (first | exact List.Mem.head _ | apply List.Mem.tail)) (load_V _) fun i7 => ?_
      refine index_fact (n := (a.getD (p - 1) []).length) (by repeat (first | exact List.Mem.head _ | apply List.Mem.tail)) k rfl (by rw [hlen _ (by omega)]; exact hkq) fun i8 => ?_
      refine load_fact (d := J ((a.getD (p - 1) []).getD k z0)) (by repeat (first | exact List.Mem.head _ | apply List.Mem.tail)) (load_J _) fun y2 => ?_
      refine call_fn (rOf_meets 3 (by decide) (by decide)) (Seals.refl _ _) (by repeat (first | exact Sub.nil _ | refine Sub.cons (by repeat (first | exact List.Mem.head _ | apply List.Mem.tail)) ?_)) ?_
      rintro y3 _ _ ⟨rfl, rfl⟩
      refine call_fn (rMulZJ y3 y2 3 ((a.getD (p - 1) []).getD k z0) 1 (by decide) (by decide) hx1.1 (by omega)) (Seals.refl _ _) (by repeat (first | exact Sub.nil _ | refine Sub.cons (by repeat (first | exact List.Mem.head _ | apply List.Mem.tail)) ?_)) ?_
      rintro y4 _ _ ⟨rfl, rfl⟩
      have hsub := rSubJZ y1 y4 ((a.getD 0 []).getD k z0) (3 * jv ((a.getD (p - 1) []).getD k z0)) 2 hx0.1 (by omega) (sz.mul (show sz 3 1 by decide) (sz_jv hx1.1 hx1.2)) (by decide)
      have eg : jv ((a.getD 0 []).getD k z0) - 3 * jv ((a.getD (p - 1) []).getD k z0) = g k := by
        rw [hg, hat 0 k hp hkq, hat (p - 1) k (by omega) hkq]
      rw [eg] at hsub
      refine call_fn hsub (Seals.refl _ _) (by repeat (first | exact Sub.nil _ | refine Sub.cons (by repeat (first | exact List.Mem.head _ | apply List.Mem.tail)) ?_)) ?_
      rintro y5 _ _ ⟨rfl, rfl⟩
      refine lit_L (size := 2) J z0 (cn (g k)) (by decide) (Reads.fact (d := zd (g k)) (by repeat (first | exact List.Mem.head _ | apply List.Mem.tail))) rfl fun l1 => ?_
      refine append_L 0 rfl hl0 (Knw.fact (by repeat (first | exact List.Mem.head _ | apply List.Mem.tail))) (by simp; omega) (by simp; omega) fun l2 hl2 => ?_
      refine ar rfl (by first | exact ⟨by omega, by omega⟩ | (simp only [inK]; omega)) ?_
      refine again (k + 1, l2) ⟨by simp only; omega, hl2⟩ (by simp only; omega) (by repeat (first | exact trivial | refine ⟨rfl, ?_⟩ | refine ⟨i64_eq (by first | omega | (simp only; omega)), ?_⟩ | refine ⟨u64_eq (by first | omega | (simp only; omega)), ?_⟩)) ?_
      simp only [range_snoc_map]
      exact Seals.sub (by repeat (first | exact Sub.nil _ | refine Sub.cons (by repeat (first | exact List.Mem.head _ | apply List.Mem.tail)) ?_))
    · have hkq : k = q := by omega
      subst hkq
      have hsl : Seals [ownL 2 J z0 l0 ((List.range k).map fun j => cn (g j))] [(v, W a), (w, W b)] [] ((l0, V lst) :: [(v, W a), (w, W b)]) := by rw [← hlst0]; exact Seals.L 0 rfl hl0
      refine call_fn (rowsOwnO_meets v a (by omega) fun r hr => ⟨by have := (hsa.2 r hr).1; omega, fun x hx => by have := (hsa.2 r hr).2 x hx; omega⟩) (Seals.trans (Seals.sub (fs' := [(v, W a), (w, W b)]) (by repeat (first | exact Sub.nil _ | refine Sub.cons (by repeat (first | exact List.Mem.head _ | apply List.Mem.tail)) ?_))) hsl) (by repeat (first | exact Sub.nil _ | refine Sub.cons (by repeat (first | exact List.Mem.head _ | apply List.Mem.tail)) ?_)) ?_
      rintro u _ _ ⟨hu, vs, hvs, rfl, rfl⟩
      refine lit_L (size := 1) Dat.one undef l0 (by decide) (Reads.one hl0.one) rfl fun l1 => ?_
      refine append_rule (size := 1) 1 rfl hu (Knw.fact (by repeat (first | exact List.Mem.head _ | apply List.Mem.tail))) (by simp; omega) (by simp; omega) fun u2 hu2 => ?_
      refine call_fn (rankT u2 (a ++ [lst]) (p + 1) k 3 n (mx (ww (a ++ [lst]))) hW hR hF (by omega) (by omega) (by omega) (Nat.le_trans (Eb_mono 3 hca) (by decide)) hk2) (Seals.trans (Seals.longer2 (lst := lst) hu2 hvs (by repeat (first | exact List.Mem.head _ | apply List.Mem.tail))) (Seals.sub (fs' := [(u2, W (a ++ [lst])), (v, W a), (w, W b)]) (by repeat (first | exact Sub.nil _ | refine Sub.cons (by repeat (first | exact List.Mem.head _ | apply List.Mem.tail)) ?_)))) (by repeat (first | exact Sub.nil _ | refine Sub.cons (by repeat (first | exact List.Mem.head _ | apply List.Mem.tail)) ?_)) ?_
      rintro _ _ _ ⟨rfl, rfl, rfl⟩
      have hle1 := hrk.le_rows
      have hle2 := hrk.le_cols
      refine cmp_false rfl (fun h => h rfl) ?_
      refine cmp_false rfl (fun h => h rfl) ?_
      refine cmp_false rfl (fun h => h rfl) ?_
      refine cmp_false rfl (fun h => h rfl) ?_
      refine len_fact (n := a.length) (by repeat (first | exact List.Mem.head _ | apply List.Mem.tail)) fun _ => ?_
      refine index_fact (n := a.length) (by repeat (first | exact List.Mem.head _ | apply List.Mem.tail)) 0 rfl (by omega) fun j1 => ?_
      refine load_fact (d := V (a.getD 0 [])) (by repeat (first | exact List.Mem.head _ | apply List.Mem.tail)) (load_V _) fun j2 => ?_
      refine len_fact (n := (a.getD 0 []).length) (by repeat (first | exact List.Mem.head _ | apply List.Mem.tail)) fun _ => ?_
      refine min2_rule ?_
      refine cmp_false rfl (by omega) ?_
      refine call_fn (detT v a p k 1 X hA hra hfa hp (by omega) (Nat.le_trans (Eb_mono 1 hla) (by decide))) (Seals.refl _ _) (by repeat (first | exact Sub.nil _ | refine Sub.cons (by repeat (first | exact List.Mem.head _ | apply List.Mem.tail)) ?_)) ?_
      rintro _ _ _ ⟨rfl, q1, rfl, rfl⟩
      refine alloc_rule (d := I false []) fun bd hbd => ?_
      refine store_box (d := zd (if p = k then det p X else 0)) 0 rfl hbd rfl (by kernel_rfl) ?_ ?_; exact Reads.fact (by repeat (first | exact List.Mem.head _ | apply List.Mem.tail))
      have hds : sz (det p X) 13 := (det_sz p (by omega) fun i j _ _ => hXs i j).mono (by omega)
      by_cases hpk : p = k
      · subst hpk
        rw [if_pos rfl, if_pos rfl]
        refine cmp_true rfl rfl ?_
        refine load_box (d := zd (det p X)) 0 rfl hbd rfl (load_I _ _) fun y1 => ?_
        refine call_fn (rSignZ y1 (det p X) 13 hds (by decide)) (Seals.refl _ _) (by repeat (first | exact Sub.nil _ | refine Sub.cons (by repeat (first | exact List.Mem.head _ | apply List.Mem.tail)) ?_)) ?_
        rintro _ _ _ ⟨rfl, rfl, rfl⟩
        have hfull := hrk.full
        by_cases hlt : n < p
        · refine cmp_true rfl (by rw [hfull.2 hlt]; rfl) ?_
          refine len_fact (n := a.length) (by repeat (first | exact List.Mem.head _ | apply List.Mem.tail)) fun _ => ?_
          refine cmp_true rfl (by omega) ?_
          refine bne_split (fun h => absurd rfl h) (fun _ => ?_)
          by_cases hfp : fitsProd a b
          · obtain ⟨_, hrb, hab⟩ := hfp
            have hB := ww_matL hrb
            have hr : 0 < (b.getD 0 []).length := (hrb.get hrb.1).1
            have hYs : ∀ i j, sz (mx (ww b) i j) 1 := fun i j => mx_at hfb i j
            rw [hq'] at hab
            rw [hab] at hB
            obtain ⟨r, hr'⟩ : ∃ r, (b.getD 0 []).length = r := ⟨_, rfl⟩
            rw [hr'] at hB hr hcb
            generalize mx (ww b) = Y at *
            have hMs : ∀ i j, i < p → j < r → sz (mm p X Y i j) 3 := fun i j _ _ => mm_sz (e := 1) (f := 1) (fun _ _ => hXs _ _) (fun _ _ => hYs _ _) (by omega)
            have hk3 := bar_rank p r Y
            have hk4 := bar_rank p r (mm p X Y)
            have hle3 := Rk.mul hrk hk3 hk4
            have hle4 := Rk.frob hrk hk3 hk4.up
            generalize (bar p r Y).step = n3 at *
            generalize (bar p r (mm p X Y)).step = n4 at *
            refine call_fn (mulT v w a b p p r 1 X Y hA hB hra hrb hfa hfb (by omega) hp (by omega) hr (by omega) (by omega) (by omega)) (Seals.refl _ _) (by repeat (first | exact Sub.nil _ | refine Sub.cons (by repeat (first | exact List.Mem.head _ | apply List.Mem.tail)) ?_)) ?_
            rintro _ _ _ ⟨rfl, x, rfl, rfl⟩
            refine cmp_true rfl rfl ?_
            refine call_fn (rankT w b p r 1 n3 Y hB hrb hfb (by omega) (by omega) (by omega) (Nat.le_trans (Eb_mono 1 (show r ≤ 6 by omega)) (by decide)) hk3) (Seals.refl _ _) (by repeat (first | exact Sub.nil _ | refine Sub.cons (by repeat (first | exact List.Mem.head _ | apply List.Mem.tail)) ?_)) ?_
            rintro _ _ _ ⟨rfl, rfl, rfl⟩
            refine call_fn (rankT x (toR (matL p r (mm p X Y))) p r 3 n4 (mm p X Y) (ww_cn _) (matL_right _ hp hr) (mat_fits hMs) hp (by omega) (by omega) (Nat.le_trans (Eb_mono 3 (show r ≤ 6 by omega)) (by decide)) hk4) (Seals.refl _ _) (by repeat (first | exact Sub.nil _ | refine Sub.cons (by repeat (first | exact List.Mem.head _ | apply List.Mem.tail)) ?_)) ?_
            rintro _ _ _ ⟨rfl, rfl, rfl⟩
            refine min2_rule ?_
            refine cmp_true rfl (by omega) ?_
            refine ar rfl (by first | exact ⟨by omega, by omega⟩ | (simp only [inK]; omega)) ?_
            refine len_fact (n := b.length) (by repeat (first | exact List.Mem.head _ | apply List.Mem.tail)) fun _ => ?_
            refine ar rfl (by first | exact ⟨by omega, by omega⟩ | (simp only [inK]; omega)) ?_
            refine cmp_true rfl (by omega) ?_
            exact fin ⟨rfl, rfl, rfl⟩ (Seals.trans (Seals.drop 0 _ _) (Seals.nil _ _))
          · refine call_fn (mMul_meets v w a b 1 hfa hfb (by decide) (by omega) (by omega) (by omega)) (Seals.refl _ _) (by repeat (first | exact Sub.nil _ | refine Sub.cons (by repeat (first | exact List.Mem.head _ | apply List.Mem.tail)) ?_)) ?_
            rintro _ _ _ ⟨rfl, x, rfl, rfl⟩
            rw [if_neg hfp]
            refine cmp_false rfl (by decide) ?_
            exact fin ⟨rfl, rfl, rfl⟩ (Seals.trans (Seals.drop 0 _ _) (Seals.nil _ _))
        · refine cmp_false rfl (fun h => hlt (hfull.1 (Int.sign_eq_zero_iff_zero.1 h))) ?_
          refine len_fact (n := a.length) (by repeat (first | exact List.Mem.head _ | apply List.Mem.tail)) fun _ => ?_
          refine cmp_false rfl (by omega) ?_
          refine bne_split (fun h => absurd rfl h) (fun _ => ?_)
          by_cases hfp : fitsProd a b
          · obtain ⟨_, hrb, hab⟩ := hfp
            have hB := ww_matL hrb
            have hr : 0 < (b.getD 0 []).length := (hrb.get hrb.1).1
            have hYs : ∀ i j, sz (mx (ww b) i j) 1 := fun i j => mx_at hfb i j
            rw [hq'] at hab
            rw [hab] at hB
            obtain ⟨r, hr'⟩ : ∃ r, (b.getD 0 []).length = r := ⟨_, rfl⟩
            rw [hr'] at hB hr hcb
            generalize mx (ww b) = Y at *
            have hMs : ∀ i j, i < p → j < r → sz (mm p X Y i j) 3 := fun i j _ _ => mm_sz (e := 1) (f := 1) (fun _ _ => hXs _ _) (fun _ _ => hYs _ _) (by omega)
            have hk3 := bar_rank p r Y
            have hk4 := bar_rank p r (mm p X Y)
            have hle3 := Rk.mul hrk hk3 hk4
            have hle4 := Rk.frob hrk hk3 hk4.up
            generalize (bar p r Y).step = n3 at *
            generalize (bar p r (mm p X Y)).step = n4 at *
            refine call_fn (mulT v w a b p p r 1 X Y hA hB hra hrb hfa hfb (by omega) hp (by omega) hr (by omega) (by omega) (by omega)) (Seals.refl _ _) (by repeat (first | exact Sub.nil _ | refine Sub.cons (by repeat (first | exact List.Mem.head _ | apply List.Mem.tail)) ?_)) ?_
            rintro _ _ _ ⟨rfl, x, rfl, rfl⟩
            refine cmp_true rfl rfl ?_
            refine call_fn (rankT w b p r 1 n3 Y hB hrb hfb (by omega) (by omega) (by omega) (Nat.le_trans (Eb_mono 1 (show r ≤ 6 by omega)) (by decide)) hk3) (Seals.refl _ _) (by repeat (first | exact Sub.nil _ | refine Sub.cons (by repeat (first | exact List.Mem.head _ | apply List.Mem.tail)) ?_)) ?_
            rintro _ _ _ ⟨rfl, rfl, rfl⟩
            refine call_fn (rankT x (toR (matL p r (mm p X Y))) p r 3 n4 (mm p X Y) (ww_cn _) (matL_right _ hp hr) (mat_fits hMs) hp (by omega) (by omega) (Nat.le_trans (Eb_mono 3 (show r ≤ 6 by omega)) (by decide)) hk4) (Seals.refl _ _) (by repeat (first | exact Sub.nil _ | refine Sub.cons (by repeat (first | exact List.Mem.head _ | apply List.Mem.tail)) ?_)) ?_
            rintro _ _ _ ⟨rfl, rfl, rfl⟩
            refine min2_rule ?_
            refine cmp_true rfl (by omega) ?_
            refine ar rfl (by first | exact ⟨by omega, by omega⟩ | (simp only [inK]; omega)) ?_
            refine len_fact (n := b.length) (by repeat (first | exact List.Mem.head _ | apply List.Mem.tail)) fun _ => ?_
            refine ar rfl (by first | exact ⟨by omega, by omega⟩ | (simp only [inK]; omega)) ?_
            refine cmp_true rfl (by omega) ?_
            exact fin ⟨rfl, rfl, rfl⟩ (Seals.trans (Seals.drop 0 _ _) (Seals.nil _ _))
          · refine call_fn (mMul_meets v w a b 1 hfa hfb (by decide) (by omega) (by omega) (by omega)) (Seals.refl _ _) (by repeat (first | exact Sub.nil _ | refine Sub.cons (by repeat (first | exact List.Mem.head _ | apply List.Mem.tail)) ?_)) ?_
            rintro _ _ _ ⟨rfl, x, rfl, rfl⟩
            rw [if_neg hfp]
            refine cmp_false rfl (by decide) ?_
            exact fin ⟨rfl, rfl, rfl⟩ (Seals.trans (Seals.drop 0 _ _) (Seals.nil _ _))
      · rw [if_neg hpk, if_neg hpk]
        refine cmp_false rfl (by decide) ?_
        by_cases hfp : fitsProd a b
        · obtain ⟨_, hrb, hab⟩ := hfp
          have hB := ww_matL hrb
          have hr : 0 < (b.getD 0 []).length := (hrb.get hrb.1).1
          have hYs : ∀ i j, sz (mx (ww b) i j) 1 := fun i j => mx_at hfb i j
          rw [hq'] at hab
          rw [hab] at hB
          obtain ⟨r, hr'⟩ : ∃ r, (b.getD 0 []).length = r := ⟨_, rfl⟩
          rw [hr'] at hB hr hcb
          generalize mx (ww b) = Y at *
          have hMs : ∀ i j, i < p → j < r → sz (mm k X Y i j) 3 := fun i j _ _ => mm_sz (e := 1) (f := 1) (fun _ _ => hXs _ _) (fun _ _ => hYs _ _) (by omega)
          have hk3 := bar_rank k r Y
          have hk4 := bar_rank p r (mm k X Y)
          have hle3 := Rk.mul hrk hk3 hk4
          have hle4 := Rk.frob hrk hk3 hk4.up
          generalize (bar k r Y).step = n3 at *
          generalize (bar p r (mm k X Y)).step = n4 at *
          refine call_fn (mulT v w a b p k r 1 X Y hA hB hra hrb hfa hfb (by omega) hp (by omega) hr (by omega) (by omega) (by omega)) (Seals.refl _ _) (by repeat (first | exact Sub.nil _ | refine Sub.cons (by repeat (first | exact List.Mem.head _ | apply List.Mem.tail)) ?_)) ?_
          rintro _ _ _ ⟨rfl, x, rfl, rfl⟩
          refine cmp_true rfl rfl ?_
          refine call_fn (rankT w b k r 1 n3 Y hB hrb hfb (by omega) (by omega) (by omega) (Nat.le_trans (Eb_mono 1 (show r ≤ 6 by omega)) (by decide)) hk3) (Seals.refl _ _) (by repeat (first | exact Sub.nil _ | refine Sub.cons (by repeat (first | exact List.Mem.head _ | apply List.Mem.tail)) ?_)) ?_
          rintro _ _ _ ⟨rfl, rfl, rfl⟩
          refine call_fn (rankT x (toR (matL p r (mm k X Y))) p r 3 n4 (mm k X Y) (ww_cn _) (matL_right _ hp hr) (mat_fits hMs) hp (by omega) (by omega) (Nat.le_trans (Eb_mono 3 (show r ≤ 6 by omega)) (by decide)) hk4) (Seals.refl _ _) (by repeat (first | exact Sub.nil _ | refine Sub.cons (by repeat (first | exact List.Mem.head _ | apply List.Mem.tail)) ?_)) ?_
          rintro _ _ _ ⟨rfl, rfl, rfl⟩
          refine min2_rule ?_
          refine cmp_true rfl (by omega) ?_
          refine ar rfl (by first | exact ⟨by omega, by omega⟩ | (simp only [inK]; omega)) ?_
          refine len_fact (n := b.length) (by repeat (first | exact List.Mem.head _ | apply List.Mem.tail)) fun _ => ?_
          refine ar rfl (by first | exact ⟨by omega, by omega⟩ | (simp only [inK]; omega)) ?_
          refine cmp_true rfl (by omega) ?_
          exact fin ⟨rfl, rfl, rfl⟩ (Seals.trans (Seals.drop 0 _ _) (Seals.nil _ _))
        · refine call_fn (mMul_meets v w a b 1 hfa hfb (by decide) (by omega) (by omega) (by omega)) (Seals.refl _ _) (by repeat (first | exact Sub.nil _ | refine Sub.cons (by repeat (first | exact List.Mem.head _ | apply List.Mem.tail)) ?_)) ?_
          rintro _ _ _ ⟨rfl, x, rfl, rfl⟩
          rw [if_neg hfp]
          refine cmp_false rfl (by decide) ?_
          exact fin ⟨rfl, rfl, rfl⟩ (Seals.trans (Seals.drop 0 _ _) (Seals.nil _ _))

end Go.Proofs.Ytajkjlgddmkkaaa

namespace Go.Proofs.Ytajkjlgddmkkaaa
open Go.ChangeShapes Go.WideShapes Go.ChangeAt Go.RowKit
open Go.Joins (open_agg2)

set_option maxRecDepth 100000 in
theorem matrixRanks_lifted (os : Os) (started : os.Started) (H : Type) (enc : TypeId × Value → H) :
    ReturnsInHanded {} Try.checked os 11 .any (Rows.matrixRanksSpec.pre6 enc Try.prog Try.f11 Rows.matrixRanksRow.domain false) (Rows.matrixRanksSpec.post enc Try.prog Try.f11 false true false false) := by
  refine returnsInHanded_of_change (C := Try.checked) own0 started (by kernel_rfl) Try.func11
    (ChangeSpec.witness6 (enc := enc) (C := Try.checked) false ⟨#[], #[.slice none 0 0, .slice none 0 0], []⟩ 8 (by kernel_rfl) (by kernel_rfl) (by kernel_rfl) (by kernel_rfl)) ?_
  intro Wd base args ds gs before hval0 hW hcnd _
  have hval : ∀ (j : Nat) t v, Try.f11.params[j]? = some t → args[j]? = some v → Value.okWide Try.prog Wd .any base t v := hval0
  have hW' := hW
  obtain ⟨p, q, hA0, hV, rfl, hfz, hnd⟩ := hW
  have hA : DataW.TrodAll enc Try.prog Wd 0 (fun _ => true) true Try.f11.params.toList args.toList ds p := hA0
  rw [Try.params11] at hA hval
  obtain ⟨v0, vs0, d0, ds0, p0, q0, hargs, rfl, rfl, h0, r0⟩ := trodAll_cons hA
  obtain ⟨v1, vs1, d1, ds1, p1, q1, rfl, rfl, rfl, h1, r1⟩ := trodAll_cons r0
  obtain ⟨rfl, rfl, rfl⟩ := trodAll_nil r1
  obtain rfl : args = #[v0, v1] := by cases args; simp_all
  obtain ⟨rfl, rfl⟩ := trodVars_none hV
  obtain ⟨a0, n0, c0, rfl⟩ := okWide_slice Try.underlying22 (hval 0 22 v0 rfl rfl)
  have k0 := h0
  have lt0 : ∀ x ∈ p0, x.block < Wd.heap.size := by obtain ⟨m, hm⟩ := k0; exact DataW.trod_lt m _ _ _ hm
  obtain ⟨m0, lm0, rd0⟩ : ∃ m, limM m ∧ Rd (fun b => b < Wd.heap.size) Wd (.slice a0 n0 c0) (W m) := by
    obtain ⟨fuel, hf⟩ := h0
    obtain ⟨m, e1, e2⟩ := rd_rows hf
    exact ⟨m, e1, rd_val rfl e2⟩
  obtain ⟨a1, n1, c1, rfl⟩ := okWide_slice Try.underlying22 (hval 1 22 v1 rfl rfl)
  have k1 := h1
  have lt1 : ∀ x ∈ p1, x.block < Wd.heap.size := by obtain ⟨m, hm⟩ := k1; exact DataW.trod_lt m _ _ _ hm
  obtain ⟨m1, lm1, rd1⟩ : ∃ m, limM m ∧ Rd (fun b => b < Wd.heap.size) Wd (.slice a1 n1 c1) (W m) := by
    obtain ⟨fuel, hf⟩ := h1
    obtain ⟨m, e1, e2⟩ := rd_rows hf
    exact ⟨m, e1, rd_val rfl e2⟩
  clear hA0 hval0
  refine (calls_of_meets (w := Wd) (ranks_meets (.slice a0 n0 c0) (.slice a1 n1 c1) m0 m1 lm0 lm1) ?_).mono fun e W2 ⟨he, bel⟩ => ?_
  · intro F hF
    simp only [List.mem_cons, List.not_mem_nil, or_false] at hF
    rcases hF with rfl | rfl
    · exact rd0
    · exact rd1
  subst he
  exact ⟨_, rfl, _, _, _, [], _, [], hW', trodAll_mk1 (shut_bool Try.underlying4 _), (trodAll_cons_mk (Below.trod laid0 (by kernel_rfl) (of_decide_eq_true (by kernel_rfl)) k0 bel lt0) (trodAll_cons_mk (Below.trod laid0 (by kernel_rfl) (of_decide_eq_true (by kernel_rfl)) k1 bel lt1) trodAll_mk0)), rfl, bel.frame _, fun h => by cases h⟩

theorem matrixRanks_holds : Rows.MatrixRanksSaid :=
  OpenClaim.holds_of_wide 11 Try.f11 rfl rfl rfl rfl rfl rfl rfl ⟨rfl, rfl, rfl, rfl, rfl⟩ rfl rfl rfl rfl rfl (by kernel_rfl) Try.func11 (by kernel_rfl)
    (of_decide_eq_true (by kernel_rfl)) (by unfold Func.isWrapper; first | (rw [if_pos (by decide +kernel)]; kernel_rfl) | (rw [if_neg (by decide +kernel)]; exact ⟨rfl, rfl⟩))
    (fun os started H enc _ => matrixRanks_lifted os started H enc)

#print axioms matrixRanks_holds

end Go.Proofs.Ytajkjlgddmkkaaa
