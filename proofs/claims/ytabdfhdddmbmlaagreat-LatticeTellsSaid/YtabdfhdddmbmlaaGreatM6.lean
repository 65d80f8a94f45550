/- The law LatticeTells is true of each input, and changes none. No condition. -/
import Derived.Test.YtabdfhdddmbmlaaGreatM5
import Derived.Test.YtabdfhdddmbmlaaGreatRows
import Derived.OpenShut
import Derived.Below
import Derived.Lib.SmallJoins
set_option linter.unusedVariables false
set_option linter.unusedSimpArgs false
namespace Go.Proofs.YtabdfhdddmbmlaaGreat
theorem dG_det (G : Mx) (n : Nat) : dG G n = det n G := by
  unfold dG
  rw [← det_rev n G]
  refine det_congr fun x y hx hy => ?_
  show G ((dn n).getD x 0) ((dn n).getD y 0) = G _ _
  rw [dn_get hx, dn_get hy]
section
variable {m n : Nat} {b : Mx}
theorem ip_zero {u : Nat → Int} : ∀ {m : Nat}, ip m u u = 0 → ∀ c, c < m → u c = 0
  | 0, _, c, hc => by omega
  | m + 1, h, c, hc => by
    have h1 : ip m u u + u m * u m = 0 := h
    have h2 := ip_nn m u
    have h3 := sq_nn (u m)
    by_cases e : c = m
    · have : u m * u m = 0 := by omega
      rw [e]; rcases Int.mul_eq_zero.1 this with h | h <;> exact h
    · exact ip_zero (m := m) (by omega) c (by omega)
theorem ind_of_vol (h : dm m b n ≠ 0) : Ind m n b := by
  have hne : ∀ t, t ≤ n → dG (gr m b) t ≠ 0 := by
    intro t
    induction t with
    | zero => intro _; rw [dG_zero]; decide
    | succ s ih =>
      intro hs h0
      have hs0 := ih (by omega)
      have hw : ip m (wv m b s) (wv m b s) = 0 := by rw [wv_wv, h0, Int.mul_zero]
      have hz := ip_zero hw
      refine h ?_
      unfold dm
      rw [dG_det]
      refine kernel_det (i := s) (by omega) (u := fun i => if i ≤ s then cf (gr m b) s (s - i) else 0) ?_ fun j hj => ?_
      · simp only [if_pos (Nat.le_refl s), Nat.sub_self]
        rw [cf_zero]; exact hs0
      · have h1 : ip m (wv m b s) (b j) = 0 := isum_zero fun c hc => by rw [hz c hc, Int.zero_mul]
        rw [ip_wv] at h1
        obtain ⟨e, he⟩ : ∃ e, n = (s + 1) + e := ⟨n - (s + 1), by omega⟩
        rw [he, isum_split, isum_zero (n := e) fun i hi => by simp only [if_neg (show ¬ s + 1 + i ≤ s by omega), Int.zero_mul], Int.add_zero, ← h1, ← isum_rev]
        refine isum_congr fun r hr => ?_
        simp only [show s + 1 - 1 - r ≤ s by omega, if_true]
        rw [show s - (s + 1 - 1 - r) = r by omega, show s + 1 - 1 - r = s - r by omega, Int.mul_comm]; rfl
  exact fun t ht => dG_pos (n := n) hne t ht
theorem vol_of_ind (h : Ind m n b) : dm m b n ≠ 0 := by have := h n (Nat.le_refl _); omega
def bv (m : Nat) (b : Mx) (v : Nat → Int) : Nat → Int := fun i => ip m (b i) v
def cr (m n : Nat) (b : Mx) (v : Nat → Int) (k : Nat) : Int := det n (cw (gr m b) k (bv m b v))
theorem cr_eq (v : Nat → Int) {i : Nat} (hi : i < n) : isum (fun k => gr m b i k * cr m n b v k) n = dm m b n * ip m (b i) v := by
  obtain ⟨n, rfl⟩ : ∃ n', n = n' + 1 := ⟨n - 1, by omega⟩
  have := cramer (gr m b) (bv m b v) hi
  unfold cr dm
  rw [dG_det]
  exact this
theorem sol_one (h : dm m b n ≠ 0) {x : Nat → Int} (hx : ∀ i, i < n → isum (fun k => x k * gr m b k i) n = 0) : ∀ i, i < n → x i = 0 := fun i hi => Classical.byContradiction fun hne => h (by
  unfold dm
  rw [dG_det]
  exact kernel_det hi hne hx)
theorem comb_ip (q : Nat → Int) (u : Nat → Int) : ip m (comb n q b) u = isum (fun k => q k * ip m (b k) u) n := by
  rw [ip_comm, ip_comb]; exact isum_congr fun k _ => by rw [ip_comm]
theorem inside_all (h : dm m b n ≠ 0) {v x : Nat → Int} (hx : ∀ c, c < m → comb n x b c = v c) : ∀ k, k < n → cr m n b v k = dm m b n * x k := by
  have hv : ∀ i, ip m (b i) v = isum (fun k => x k * gr m b k i) n := fun i => by
    rw [show ip m (b i) v = ip m (b i) (comb n x b) from isum_congr fun c hc => by rw [hx c hc], ip_comb]
    exact isum_congr fun k _ => by rw [gr_symm]; rfl
  have key := sol_one h (x := fun k => cr m n b v k - dm m b n * x k) fun i hi => by
    have e1 := cr_eq (m := m) (b := b) v hi
    rw [hv i] at e1
    rw [isum_congr (g' := fun k => 1 * (gr m b i k * cr m n b v k) + (- dm m b n) * (x k * gr m b k i)) fun k _ => by rw [gr_symm m b k i]; grind, isum_lin, e1]
    grind
  exact fun k hk => by have := key k hk; omega
def lft (m n : Nat) (b : Mx) (v q : Nat → Int) : Int := - ip m v v + isum (fun k => q k * ip m (b k) v) n
theorem inside_lft (h : dm m b n ≠ 0) {v q : Nat → Int} (hq : ∀ k, k < n → cr m n b v k = dm m b n * q k) : lft m n b v q = 0 ↔ ∀ c, c < m → comb n q b c = v c := by
  have hG : ∀ i, i < n → isum (fun k => q k * ip m (b k) (b i)) n = ip m (b i) v := fun i hi => by
    have e1 := cr_eq (m := m) (b := b) v hi
    refine Int.eq_of_mul_eq_mul_left h ?_
    rw [← e1, ← isum_mul]
    exact isum_congr fun k hk => by
      rw [hq k hk]
      show dm m b n * (q k * ip m (b k) (b i)) = gr m b i k * (dm m b n * q k)
      rw [gr_symm m b i k]; show _ = ip m (b k) (b i) * _; grind
  have hc : ip m (comb n q b) (comb n q b) = isum (fun k => q k * ip m (b k) v) n := by
    rw [ip_comb]
    exact isum_congr fun k hk => by rw [comb_ip, hG k hk]
  have hcv : ip m (comb n q b) v = isum (fun k => q k * ip m (b k) v) n := comb_ip q v
  have he : ip m (fun c => v c - comb n q b c) (fun c => v c - comb n q b c) = - lft m n b v q := by
    have e1 := ip_sub m v (comb n q b) (fun c => v c - 1 * comb n q b c) 1
    simp only [Int.one_mul] at e1
    have e2 := ip_sub m v (comb n q b) v 1
    have e3 := ip_sub m v (comb n q b) (comb n q b) 1
    simp only [Int.one_mul] at e2 e3
    rw [e1, ip_comm m v, e2, ip_comm m (comb n q b) (fun c => v c - comb n q b c), e3, hc, hcv, ip_comm m v (comb n q b), hcv]
    unfold lft
    omega
  constructor
  · intro h0 c hc'
    rw [h0, Int.neg_zero] at he
    have h1 : v c - comb n q b c = 0 := ip_zero he c hc'
    omega
  · intro hall
    have : ip m (fun c => v c - comb n q b c) (fun c => v c - comb n q b c) = 0 := isum_zero fun c hc' => by show (v c - comb n q b c) * (v c - comb n q b c) = 0; rw [hall c hc', Int.sub_self, Int.mul_zero]
    omega
end
end Go.Proofs.YtabdfhdddmbmlaaGreat
namespace Go.Proofs.YtabdfhdddmbmlaaGreat
section
variable {a b b' u : Mx} {m n D K k : Nat}
theorem gr_same (h : ∀ i c, i < n → c < m → b' i c = b i c) {i j : Nat} (hi : i < n) (hj : j < n) : gr m b' i j = gr m b i j :=
  isum_congr fun c hc => by rw [h i c hi hc, h j c hj hc]
theorem dm_same (h : ∀ i c, i < n → c < m → b' i c = b i c) {t : Nat} (ht : t ≤ n) : dm m b' t = dm m b t :=
  dG_congr fun i j hi hj => gr_same h (by omega) (by omega)
theorem lm_same (h : ∀ i c, i < n → c < m → b' i c = b i c) {i t : Nat} (ht : t < i) (hi : i < n) : lm m b' i t = lm m b i t :=
  det_congr fun x y hx hy => by
    have e : ∀ (z : Nat) (y : Nat), y < t + 1 → z < n → (z :: dn t).getD y 0 < n := fun z y hy hz => by
      cases y with
      | zero => simpa using hz
      | succ y => rw [List.getD_cons_succ, dn_get (by omega)]; omega
    show gr m b' ((i :: dn t).getD x 0) ((t :: dn t).getD y 0) = gr m b ((i :: dn t).getD x 0) ((t :: dn t).getD y 0)
    exact gr_same h (e i x hx hi) (e t y hy (by omega))
theorem Ind.same (hi : Ind m n b) (h : ∀ i c, i < n → c < m → b' i c = b i c) : Ind m n b' := fun t ht => by rw [dm_same h ht]; exact hi t ht
theorem Size.same (hs : Size m b k 0) (h : ∀ i c, i < n → c < m → b' i c = b i c) (hk : k < n) : Size m b' k 0 := fun t h1 h2 => by
  rw [dm_same h (by omega), lm_same h h2 hk]; exact hs t h1 h2
theorem farL_same (h : ∀ i c, i < n → c < m → b' i c = b i c) (hk : k < n) (h1 : 1 ≤ k) : farL m b' k ↔ farL m b k := by
  unfold farL
  rw [dm_same h (by omega), dm_same h (by omega), dm_same h (by omega), lm_same h (by omega) hk]
theorem Rdc.same (hr : Rdc m b n) (h : ∀ i c, i < n → c < m → b' i c = b i c) : Rdc m b' n := fun i h1 h2 =>
  ⟨(hr i h1 h2).1.same h h2, (farL_same h h2 h1).2 (hr i h1 h2).2⟩
end
open Go.RowKit
theorem rv_vv (r : Row) : rv r = fun c => (vv r).getD c 0 := by
  funext c
  unfold rv
  by_cases h : c < r.length
  · exact (vv_get r c h).symm
  · rw [List.getD_eq_getElem?_getD, List.getD_eq_getElem?_getD, List.getElem?_eq_none (by omega), List.getElem?_eq_none (by rw [vv_len]; omega)]; rfl
theorem rvm_ww (m : List Row) : rvm m = mx (ww m) := by
  funext i c
  unfold rvm mx
  rw [rv_vv, ww_get]
theorem rv_cn (v : List Int) : rv (v.map cn) = fun c => v.getD c 0 := by rw [rv_vv, vv_cn]
theorem rvm_cn (M : List (List Int)) : rvm (M.map (·.map cn)) = mx M := by rw [rvm_ww, ww_cn]
noncomputable def lrr (m n : Nat) (B : Mx) : Mx × Mx := Classical.epsilon fun R => ∃ f, lrun m n f B one 1 = some R
theorem lrr_spec {m n : Nat} {B : Mx} (h : Ind m n B) : ∃ f, lrun m n f B one 1 = some (lrr m n B) := by
  have h1 : ∃ R, ∃ f, lrun m n f B one 1 = some R := by
    obtain ⟨f, R, h⟩ := lrun_total (m := m) (n := n) _ B one 1 (Nat.le_refl _) h (Nat.le_refl _)
    exact ⟨R, f, h⟩
  exact Classical.epsilon_spec h1
theorem lrr_eq {m n f : Nat} {B : Mx} {R : Mx × Mx} (hi : Ind m n B) (h : lrun m n f B one 1 = some R) : lrr m n B = R := by
  obtain ⟨g, hg⟩ := lrr_spec hi
  exact lrun_one hg h
theorem linD_dm (a : List Row) : linD a = dm (a.getD 0 []).length (rvm a) a.length := by unfold linD gmx dm; rw [dG_det]
theorem ind_iff (a : List Row) : Ind (a.getD 0 []).length a.length (rvm a) ↔ linD a ≠ 0 := by
  rw [linD_dm]
  exact ⟨vol_of_ind, ind_of_vol⟩
noncomputable def lrd (a : List Row) : Mx × Mx := lrr (a.getD 0 []).length a.length (rvm a)
noncomputable def lred (a : List Row) : List (List Int) × List (List Int) × Int :=
  if right a then (if linD a = 0 then ([], [], 8) else (matL a.length (a.getD 0 []).length (lrd a).1, matL a.length a.length (lrd a).2, 0)) else ([], [], 1)
theorem lReduceT (v : Value) (a : List Row) (k : Nat) (hf : Fits k a) (hk : k ≤ 1048576) (ln : a.length ≤ 1024) (lc : (a.getD 0 []).length ≤ 1048576) (hZ : lZ k a.length ≤ 268435456) :
    Meets Tryz.prog 10 [v] [(v, W a)] (fun r os fs => os = [] ∧ ∃ q w, r = .tuple #[q, w, .int .i64 (lred a).2.2] ∧ fs = [(q, wd (lred a).1), (w, wd (lred a).2.1)]) := by
  refine (lReduce_meets v a k (lrd a) hf hk ln lc hZ fun _ h => lrr_spec h).closed ?_
  rintro r os fs ⟨rfl, ⟨h, rfl, rfl⟩ | ⟨h, hi, rfl, rfl⟩ | ⟨h, hi, q, w, vs, ws, h1, h2, h3, h4, rfl, rfl⟩⟩
  · have e : lred a = ([], [], 1) := if_neg h
    exact ⟨_, _, ⟨rfl, _, _, by rw [e], rfl⟩, Seals.cons (by rw [e]; exact Knw.nil 1 _) (Seals.cons (by rw [e]; exact Knw.nil 1 _) (Seals.refl _ _))⟩
  · have e : lred a = ([], [], 8) := by unfold lred; rw [if_pos h, if_pos (Classical.byContradiction fun hne => hi ((ind_iff a).2 hne))]
    exact ⟨_, _, ⟨rfl, _, _, by rw [e], rfl⟩, Seals.cons (by rw [e]; exact Knw.nil 1 _) (Seals.cons (by rw [e]; exact Knw.nil 1 _) (Seals.refl _ _))⟩
  · have e : lred a = (matL a.length (a.getD 0 []).length (lrd a).1, matL a.length a.length (lrd a).2, 0) := by unfold lred; rw [if_pos h, if_neg ((ind_iff a).1 hi)]
    refine ⟨_, _, ⟨rfl, q, w, by rw [e], rfl⟩, ?_⟩
    rw [e]
    exact Seals.trans (Seals.made h1 h3) (Seals.trans (Seals.made h2 h4) (Seals.sub qS))
theorem same4_meets (v w : Value) (a b : List Row) :
    Meets Tryz.prog 12 [v, w] [(v, W a), (w, W b)] (fun r os fs => os = [] ∧ fs = [] ∧ r = .bool (decide (a = b))) := by
  refine meets_of_vc Tryz.func12 (by kernel_rfl) rfl (by kernel_rfl) (Nat.le_of_ble_eq_true rfl) ?_
  refine call_fn (rowsExact_meets v w a b) (Seals.refl _ _) qS ?_
  rintro _ _ _ ⟨rfl, rfl, rfl⟩
  exact fin ⟨rfl, rfl, rfl⟩ (Seals.nil _ _)
theorem same4W (v w : Value) (x y : List (List Int)) : Meets Tryz.prog 12 [v, w] [(v, wd x), (w, wd y)] (fun r os fs => os = [] ∧ fs = [] ∧ r = .bool (decide (x = y))) := by
  have h := same4_meets v w (x.map (·.map cn)) (y.map (·.map cn))
  rw [decide_eq_decide.2 mapm_cn_inj] at h
  exact h
theorem of4_meets (v : Value) (R C : Nat) (l : List Int) (hl : l.length = R * C) (hC : 0 < C) (lC : C ≤ 1000) (lR : R ≤ 1000) (hz : ∀ i, -9223372036854775808 ≤ l.getD i 0 ∧ l.getD i 0 < 9223372036854775808) :
    Meets Tryz.prog 26 [.int .i64 (C : Nat), v] [(v, IL l)] (fun r os fs => os = [] ∧ fs = [(r, wd (matL R C fun i k => l.getD (i * C + k) 0))]) := by
  have hRC : R * C ≤ 1000 * 1000 := Nat.mul_le_mul lR lC
  refine meets_of_vc Tryz.func26 (by kernel_rfl) rfl (by kernel_rfl) (Nat.le_of_ble_eq_true rfl) ?_
  refine empty_L V [] (by decide) fun w hw => ?_
  refine loop_rule (X := Nat × Value) (fun x => ([(0, .int .i64 (C : Nat)), (1, v), (5, x.2), (6, .int .i64 (x.1 * C : Nat))], [ownL 1 V [] x.2 ((List.range x.1).map fun i => (List.range C).map fun k => cn (l.getD (i * C + k) 0))], [(v, IL l)]))
    (fun x => x.1 ≤ R ∧ isSl x.2) (fun x => R - x.1) rfl ?_ ?_
  · exact again (0, w) ⟨Nat.zero_le _, hw⟩ trivial qF (Seals.sub qS)
  · rintro ⟨i, w⟩ ⟨h1, hw⟩
    simp only at h1 hw ⊢
    have hiC : i * C ≤ R * C := Nat.mul_le_mul_right _ h1
    refine len_fact qM fun _ => ?_
    refine cmp_split _ rfl (fun hi => ?_) (fun hi => ?_)
    · have hiR : i < R := by
        rcases Nat.lt_or_ge i R with h | h
        · exact h
        · have := Nat.mul_le_mul_right C h; omega
      have hi1 : (i + 1) * C ≤ R * C := Nat.mul_le_mul_right _ hiR
      have hi2 : (i + 1) * C = i * C + C := Nat.succ_mul _ _
      refine empty_L J z0 (by decide) fun u hu => ?_
      refine loop_rule (X := Nat × Value) (fun x => ([(0, .int .i64 (C : Nat)), (1, v), (5, w), (6, .int .i64 (i * C : Nat)), (7, x.2), (8, .int .i64 (i * C + x.1 : Nat))], [ownL 2 J z0 x.2 ((List.range x.1).map fun k => cn (l.getD (i * C + k) 0)), ownL 1 V [] w ((List.range i).map fun i => (List.range C).map fun k => cn (l.getD (i * C + k) 0))], [(v, IL l)]))
        (fun x => x.1 ≤ C ∧ isSl x.2) (fun x => C - x.1) rfl ?_ ?_
      · exact again (0, u) ⟨Nat.zero_le _, hu⟩ trivial qF (Seals.sub qS)
      · rintro ⟨k, u⟩ ⟨g1, hu⟩
        simp only at g1 hu ⊢
        refine ar rfl qI ?_
        refine cmp_split _ rfl (fun hk => ?_) (fun hk => ?_)
        · have hkC : k < C := by omega
          refine index_fact qM (i * C + k) rfl (by omega) fun a1 => ?_
          refine load_one qM ?_
          refine call_fn (rOf_meets (l.getD (i * C + k) 0) (hz _).1 (hz _).2) (Seals.refl _ _) qS ?_
          rintro y _ _ ⟨rfl, rfl⟩
          refine lit_L (size := 2) J z0 (cn (l.getD (i * C + k) 0)) (by decide) (Reads.fact (d := zd (l.getD (i * C + k) 0)) qM) rfl fun l1 => ?_
          refine append_L 0 rfl hu (Knw.fact qM) (by simp; omega) (by simp; omega) fun u2 hu2 => ?_
          refine ar rfl qI ?_
          refine again (k + 1, u2) ⟨by simp only; omega, hu2⟩ (by simp only; omega) qF ?_
          simp only [range_snoc_map]
          exact Seals.sub qS
        · have hkC : k = C := by omega
          subst hkC
          refine BuildSliceK.pre (Seals.L 0 rfl hu) ?_
          refine lit_L (size := 1) V [] ((List.range k).map fun j => cn (l.getD (i * k + j) 0)) (by decide) (Reads.fact (d := V ((List.range k).map fun j => cn (l.getD (i * k + j) 0))) qM) rfl fun l1 => ?_
          refine append_L 0 rfl hw (Knw.fact qM) (by simp; omega) (by simp; omega) fun w2 hw2 => ?_
          refine ar rfl qI ?_
          refine again (i + 1, w2) ⟨by simp only; omega, hw2⟩ (by simp only; omega) qF ?_
          simp only [range_snoc_map]
          exact Seals.sub qS
    · have hiR : i = R := by
        rcases Nat.lt_or_ge i R with h | h
        · have h2 := Nat.mul_le_mul_right C h
          have h3 : (i + 1) * C = i * C + C := Nat.succ_mul _ _
          simp only [Nat.succ_eq_add_one] at h2
          omega
        · omega
      subst hiR
      refine fin ⟨rfl, rfl⟩ (Seals.trans (Seals.L 0 rfl hw) (Seals.cons ((Knw.fact qM).cast ?_) (Seals.nil _ _)))
      unfold wd matL
      congr 1
      simp [Function.comp_def]
theorem of4W (v : Value) (R C : Nat) (l : List Int) (m : List (List Int)) (hl : l.length = R * C) (hm : (matL R C fun i k => l.getD (i * C + k) 0) = m) (hC : 0 < C) (lC : C ≤ 1000) (lR : R ≤ 1000) (hz : ∀ x, x ∈ l → -9223372036854775808 ≤ x ∧ x < 9223372036854775808) :
    Meets Tryz.prog 26 [.int .i64 (C : Nat), v] [(v, IL l)] (fun r os fs => os = [] ∧ fs = [(r, wd m)]) := by
  subst hm
  refine of4_meets v R C l hl hC lC lR fun i => ?_
  by_cases h : i < l.length
  · exact hz _ (getD_mem 0 h)
  · rw [List.getD_eq_getElem?_getD, List.getElem?_eq_none (by omega)]; decide
open Go.RowKit
theorem rtimes_eq {Sl P s c Sa y a : Nat} (h : Sl + P * c = Sa * y) (hs : s = c + a * y) : Sl + P * (s % 4294967296) + P * 4294967296 * (s / 4294967296) = (Sa + P * a) * y := by
  have h1 : P * (s % 4294967296) + P * 4294967296 * (s / 4294967296) = P * c + P * (a * y) := by
    rw [Nat.mul_assoc, ← Nat.mul_add, Nat.mod_add_div, hs, Nat.mul_add]
  rw [Nat.add_mul, Nat.mul_assoc P a y]
  omega
theorem rtimes_meets (va : Value) (a : List Nat) (y : Nat) (ha : Dig a) (hy : y < 4294967296) (la : a.length ≤ 2199023255552) :
    Meets Tryz.prog 116 [va, .int .u64 (y : Nat)] [(va, U a)] (fun r os fs => os = [] ∧ fs = [(r, U (digs (dv a * y)))]) := by
  refine meets_of_vc Tryz.func116 (by kernel_rfl) rfl (by kernel_rfl) (Nat.le_of_ble_eq_true rfl) ?_
  refine loop_rule (X := Nat × List Nat × Nat × Value) (fun x => ([(0, va), (1, .int .u64 (y : Nat)), (5, x.2.2.2), (6, .int .u64 (x.2.2.1 : Nat)), (7, .int .i64 (x.1 : Nat))], [ownU x.2.2.2 x.2.1], [(va, U a)]))
    (fun x => x.1 ≤ a.length + 1 ∧ (a.length < x.1 → x.2.2.1 = 0) ∧ x.2.1.length = x.1 ∧ Dig x.2.1 ∧ x.2.2.1 < 4294967296 ∧ isSl x.2.2.2 ∧
      dv x.2.1 + 4294967296 ^ x.1 * x.2.2.1 = dv (a.take x.1) * y) (fun x => (a.length - x.1) * 4294967296 + x.2.2.1) rfl ?_ ?_
  · exact again (0, [], 0, .slice none 0 0) ⟨by simp, fun _ => rfl, rfl, Dig.nil, by simp, isSl_nil, by simp [dv]⟩ trivial qF ((Seals.nil_U _ _).trans (Seals.sub qS))
  · rintro ⟨i, l, c, vo⟩ ⟨h1, hz, h2, h3, h4, h0, h5⟩
    simp only at h0 h1 hz h2 h3 h4 h5 ⊢
    have hx := ha.get i
    by_cases hia : i < a.length
    · have hp : a.getD i 0 * y ≤ 4294967295 * 4294967295 := Nat.mul_le_mul (by omega) (by omega)
      have hm : (a.length - i) * 4294967296 = (a.length - (i + 1)) * 4294967296 + 4294967296 := by omega
      refine len_fact qM fun _ => ?_
      refine cmp_true rfl (by omega) ?_
      refine len_fact qM fun _ => ?_
      refine cmp_true rfl (by omega) ?_
      refine index_fact qM i rfl hia fun p => ?_
      refine load_one qM ?_
      refine ar_wrap rfl ((a.getD i 0 * y : Nat) : Int) (by rw [← Int.natCast_mul]; exact wrap_in ⟨Int.natCast_nonneg _, by omega⟩) ?_
      have hs : c + a.getD i 0 * y = c + a.getD i 0 * y := rfl
      generalize hq : a.getD i 0 * y = q at *
      refine ar_wrap rfl ((c + q : Nat) : Int) (by rw [← Int.natCast_add]; exact wrap_in ⟨Int.natCast_nonneg _, by omega⟩) ?_
      generalize hse : c + q = s at *
      refine rem_rule (by omega) (by omega) ?_
      refine lit_U ((s) % 4294967296) (by omega) fun w => ?_
      refine append_U 0 rfl h0 (Knw.fact qM) (by simp; omega) (by simp; omega) fun v2 hv2 => ?_
      refine quo_rule (by omega) (by omega) qI ?_
      refine ar rfl qI ?_
      refine again (i + 1, l ++ [(s) % 4294967296], (s) / 4294967296, v2) ⟨by simp only; omega, fun h => by simp only at h ⊢; omega, by simp [h2], h3.append (Dig.cons (by omega) Dig.nil), by simp only; omega, hv2, ?_⟩ (by simp only; omega) qF (Seals.sub qS)
      simp only
      rw [dv_append, h2, dv_take_succ, Nat.pow_succ]
      simp only [dv, Nat.mul_zero, Nat.add_zero]
      exact rtimes_eq h5 (by rw [hq, hse])
    · have ha0 := getD_of_le (l := a) (i := i) (by omega)
      by_cases hc : 0 < c
      · (repeat (first | (refine len_fact qM fun _ => ?_) | (refine cmp_true rfl (by omega) ?_) | (refine cmp_false rfl (by omega) ?_) | (refine index_fact qM _ rfl (by omega) fun _ => ?_) | (refine load_one qM ?_) | (refine ar rfl qI ?_)))
        refine rem_rule (by omega) (by omega) ?_
        refine lit_U ((c) % 4294967296) (by omega) fun w => ?_
        refine append_U 0 rfl h0 (Knw.fact qM) (by simp; omega) (by simp; omega) fun v2 hv2 => ?_
        refine quo_rule (by omega) (by omega) qI ?_
        refine ar rfl qI ?_
        refine again (i + 1, l ++ [(c) % 4294967296], (c) / 4294967296, v2) ⟨by simp only; omega, fun h => by simp only at h ⊢; omega, by simp [h2], h3.append (Dig.cons (by omega) Dig.nil), by simp only; omega, hv2, ?_⟩ (by simp only; omega) qF (Seals.sub qS)
        simp only
        rw [dv_append, h2, dv_take_succ, Nat.pow_succ]
        simp only [dv, Nat.mul_zero, Nat.add_zero]
        exact rtimes_eq h5 (by rw [ha0, Nat.zero_mul, Nat.add_zero])
      · (repeat (first | (refine len_fact qM fun _ => ?_) | (refine cmp_true rfl (by omega) ?_) | (refine cmp_false rfl (by omega) ?_) | (refine index_fact qM _ rfl (by omega) fun _ => ?_) | (refine load_one qM ?_) | (refine ar rfl qI ?_)))
        refine call_fn (rTrim_meets vo l) (Seals.U 0 rfl h0) qS ?_
        rintro r _ _ ⟨rfl, rfl⟩
        refine fin ⟨rfl, rfl⟩ (Seals.cons ((Knw.fact qM).cast ?_) (Seals.nil _ _))
        rw [List.take_of_length_le (by omega), show c = 0 by omega] at h5
        rw [trimD_eq h3]
        congr 2
theorem lit_Uo {P : Program} {t e : TypeId} {bytes : Nat} {y : Int} {os : List Own} {fs : List Fact} {K : Cont} [ht : TSl P t e 1] [he : TEl P e 1 bytes] (x : Nat) (hx : y = (x : Int)) (k : ∀ v, isSl v → K v (ownU v [x] :: os) fs) :
    BuildSliceK P t 1 [(0, .int .u64 y)] os fs K := by
  subst hx
  have h1 := buildSlice_own (P := P) (t := t) (os := os) (fs := fs) (K := fun u os' fs' => ∃ os'' fs'', Seals os' fs' os'' fs'' ∧ K u os'' fs'') (n := 1) [.int .u64 (x : Int)] [.one (.int .u64 (x : Int))] rfl rfl (by decide) (by decide)
    ⟨Reads.one rfl, rfl, trivial⟩
  refine ⟨Grw.sealed (h1 fun v hv => ⟨_, _, ?_, k v hv⟩).out⟩
  exact Seals.own_cong (os := own1 v 1 1 (fun i => [Dat.one (.int .u64 (x : Int))].getD i (.one undef)) :: os) (fs := fs) 0 (n' := [x].length) (UE [x]) rfl rfl fun i hi => by
    have : i = 0 := by omega
    subst this; rfl
theorem digit_of {R Y lo : Nat} (h1 : lo * Y ≤ R) (h2 : R < (lo + 1) * Y) : R / Y = lo ∧ R - Y * lo = R % Y := by
  have hy : 0 < Y := Nat.pos_of_ne_zero fun e => by subst e; simp at h2
  have e : R / Y = lo := by
    have a1 := (Nat.le_div_iff_mul_le hy).2 h1
    have a2 := (Nat.div_lt_iff_lt_mul hy).2 h2
    omega
  exact ⟨e, by rw [← e, Nat.mod_eq_sub]⟩
theorem dv_drop {l : List Nat} {i : Nat} (h : i < l.length) : dv (l.drop i) = l.getD i 0 + 4294967296 * dv (l.drop (i + 1)) := by
  rw [List.drop_eq_getElem_cons h]
  simp only [dv]
  rw [List.getD_eq_getElem?_getD, List.getElem?_eq_getElem h]; rfl
theorem dv_drop_set {l : List Nat} {i x : Nat} (h : i < l.length) : dv ((l.set i x).drop i) = x + 4294967296 * dv (l.drop (i + 1)) := by
  rw [dv_drop (by simpa using h), getD_set h, if_pos rfl, List.drop_set_of_lt (by omega)]
theorem div_step1 {X x Q R Y q r : Nat} (h : X = Q * Y + R) (hq : R * 4294967296 + x = q * Y + r) : x + 4294967296 * X = (q + 4294967296 * Q) * Y + r := by
  rw [h, Nat.add_mul, Nat.mul_add, ← Nat.mul_assoc]
  omega
theorem lims_len_le {m n : Nat} (h : m ≤ n) : (lims m).length ≤ (lims n).length := lims_length_le (by
  have := nv_lt (Lim_lims n)
  rw [nv_lims] at this
  omega)
theorem rDivMod_meets (va vb : Value) (a b : List Nat) (ha : Lim a) (hb : Lim b) (la : a.length ≤ 274877906944) (lb : b.length ≤ 274877906944) (h0 : nv b ≠ 0) :
    Meets Tryz.prog 93 [va, vb] [(va, U a), (vb, U b)] (fun r os fs => os = [] ∧ ∃ q m, r = .tuple #[q, m, .bool true] ∧ fs = [(q, U (lims (nv a / nv b))), (m, U (lims (nv a % nv b)))]) := by
  have h1 := digs_len ha
  have h2 := digs_len hb
  have dA := Dig_digs (nv a)
  have dB := Dig_digs (nv b)
  have eA := dv_digs (nv a)
  have eB := dv_digs (nv b)
  have hB0 : (digs (nv b)).length ≠ 0 := fun h => h0 (digs_eq_nil.1 (List.eq_nil_of_length_eq_zero h))
  have hdm := digits_meets va a ha (by omega)
  have hdm2 := digits_meets vb b hb (by omega)
  generalize hX : digs (nv a) = x at *
  generalize hY : digs (nv b) = y at *
  have hyb : ∀ n, digs (dv y * n) = digs (nv b * n) := fun n => by rw [eB]
  generalize hM : nv a = M at *
  generalize hN : nv b = N at *
  refine meets_of_vc Tryz.func93 (by kernel_rfl) rfl (by kernel_rfl) (Nat.le_of_ble_eq_true rfl) ?_
  refine call_fn hdm (Seals.refl _ _) qS ?_
  rintro vx _ _ ⟨rfl, rfl⟩
  refine call_fn hdm2 (Seals.refl _ _) qS ?_
  rintro vy _ _ ⟨rfl, rfl⟩
  refine len_fact qM fun _ => ?_
  refine cmp_false rfl (by omega) ?_
  refine len_fact qM fun _ => ?_
  refine make_U x.length (by omega) (by omega) (by omega) (by omega) fun vq hq => ?_
  refine len_fact qM fun _ => ?_
  refine cmp_split _ rfl (fun hone => ?_) (fun hone => ?_)
  · have hy1 : y.length = 1 := by omega
    have hyN : y.getD 0 0 = N := by
      obtain ⟨t, ht⟩ := List.length_eq_one_iff.1 hy1
      rw [ht] at eB ⊢
      simpa [dv] using eB
    have hNlt : N < 4294967296 := by rw [← hyN]; exact dB.get 0
    refine len_fact qM fun _ => ?_
    refine ar rfl qI ?_
    refine loop_rule (X := Nat × List Nat × Nat) (fun z => ([(7, vx), (8, vy), (9, vq), (10, .int .u64 (z.2.2 : Nat)), (11, .int .i64 ((z.1 : Int) - 1))], [ownU vq z.2.1], [(vx, U x), (vy, U y)]))
      (fun z => z.1 ≤ x.length ∧ z.2.1.length = x.length ∧ Dig z.2.1 ∧ z.2.2 < N ∧ dv (x.drop z.1) = dv (z.2.1.drop z.1) * N + z.2.2) (fun z => z.1) rfl ?_ ?_
    · exact again (x.length, List.replicate x.length 0, 0) ⟨Nat.le_refl _, by simp, Dig.replicate _, by simp only; omega, by simp [dv]⟩ trivial qF (Seals.sub qS)
    · rintro ⟨k, l, left⟩ ⟨g1, g2, g3, g4, g5⟩
      simp only at g1 g2 g3 g4 g5 ⊢
      refine cmp_split _ rfl (fun hk => ?_) (fun hk => ?_)
      · obtain ⟨i, rfl⟩ : ∃ i, k = i + 1 := ⟨k - 1, by omega⟩
        have hi : i < x.length := by omega
        have hxi := dA.get i
        have hl4 : left * 4294967296 ≤ 4294967294 * 4294967296 := Nat.mul_le_mul_right _ (by omega)
        have hs1 := Nat.mod_lt (left * 4294967296 + x.getD i 0) (show 0 < N by omega)
        have hs2 := Nat.div_add_mod (left * 4294967296 + x.getD i 0) N
        have hdl : (left * 4294967296 + x.getD i 0) / N < 4294967296 := by
          refine (Nat.div_lt_iff_lt_mul (by omega)).2 ?_
          have : (left + 1) * 4294967296 ≤ N * 4294967296 := Nat.mul_le_mul_right _ (by omega)
          rw [Nat.mul_comm 4294967296 N]; omega
        have hdr := dv_drop hi
        have hds := dv_drop_set (l := l) (i := i) (x := (left * 4294967296 + x.getD i 0) / N) (by omega)
        refine ar_wrap rfl ((left * 4294967296 : Nat) : Int) (by rw [show ((left : Int) * 4294967296) = ((left * 4294967296 : Nat) : Int) by omega]; exact wrap_in ⟨Int.natCast_nonneg _, by omega⟩) ?_
        refine index_fact qM i (by omega) hi fun p => ?_
        refine load_one qM ?_
        refine ar_wrap rfl ((left * 4294967296 + x.getD i 0 : Nat) : Int) (by rw [← Int.natCast_add]; exact wrap_in ⟨Int.natCast_nonneg _, by omega⟩) ?_
        have hst := div_step1 (x := x.getD i 0) (q := (left * 4294967296 + x.getD i 0) / N) (r := (left * 4294967296 + x.getD i 0) % N) g5 (by rw [Nat.mul_comm _ N]; omega)
        generalize left * 4294967296 + x.getD i 0 = s at *
        refine index_fact qM 0 rfl (by omega) fun p2 => ?_
        refine load_one qM ?_
        rw [hyN]
        refine quo_rule (by omega) (by omega) (by rw [← Int.natCast_ediv]; exact ⟨Int.natCast_nonneg _, by omega⟩) ?_
        refine index_U 0 rfl hq i (by omega) (by omega) ?_
        refine store_U 0 rfl (s / N) (by rw [Int.natCast_ediv]) (by omega) ?_
        refine index_fact qM 0 rfl (by omega) fun p3 => ?_
        refine load_one qM ?_
        rw [hyN]
        refine rem_rule (by omega) (by omega) ?_
        refine ar rfl qI ?_
        refine again (i, l.set i (s / N), s % N) ⟨by simp only; omega, by simp [g2], g3.set _ hdl, hs1, ?_⟩ (by simp only; omega) ⟨rfl, rfl, rfl, u64_eq (by simp only; rw [Int.natCast_emod]), i64_eq (by simp only; omega), trivial⟩ (Seals.sub qS)
        simp only
        rw [hdr, hds, hst]
      · have hk0 : k = 0 := by omega
        subst hk0
        rw [List.drop_zero, List.drop_zero, eA] at g5
        have hlen := dv_lt g3
        obtain ⟨e1, e2⟩ := digit_of (R := M) (Y := N) (lo := dv l) (by omega) (by rw [Nat.succ_mul]; omega)
        have e3 : M % N = left := by rw [← e2, Nat.mul_comm N]; omega
        refine call_fn (limbs_meets vq l g3 (by omega)) (Seals.U 0 rfl hq) qS ?_
        rintro r1 _ _ ⟨rfl, rfl⟩
        refine lit_U left rfl fun w => ?_
        refine call_fn (limbs_meets w [left] (Dig.cons (by omega) Dig.nil) (by simp)) (Seals.refl _ _) qS ?_
        rintro r2 _ _ ⟨rfl, rfl⟩
        refine fin ⟨rfl, r1, r2, rfl, rfl⟩ (Seals.cons ((Knw.fact qM).cast (by rw [e1])) (Seals.cons ((Knw.fact qM).cast (by rw [e3]; simp [dv])) (Seals.nil _ _)))
  · have hN0 : 0 < N := by omega
    refine len_fact qM fun _ => ?_
    refine ar rfl qI ?_
    refine loop_rule (X := Nat × List Nat × Nat × Value) (fun z => ([(7, vx), (8, vy), (9, vq), (12, z.2.2.2), (13, .int .i64 ((z.1 : Int) - 1))], [ownU vq z.2.1], [(vx, U x), (vy, U y), (z.2.2.2, U (digs z.2.2.1))]))
      (fun z => z.1 ≤ x.length ∧ z.2.1.length = x.length ∧ Dig z.2.1 ∧ z.2.2.1 < N ∧ dv (x.drop z.1) = dv (z.2.1.drop z.1) * N + z.2.2.1) (fun z => z.1) rfl ?_ ?_
    · refine again (x.length, List.replicate x.length 0, 0, .slice none 0 0) ⟨Nat.le_refl _, by simp, Dig.replicate _, by simp only; omega, by simp [dv]⟩ trivial qF (Seals.trans (Seals.sub (fs' := [(vx, U x), (vy, U y)]) qS) (Seals.trans (Seals.cons (d := U (digs 0)) (by rw [digs_zero]; exact Knw.nil 1 _) (Seals.sub (fs' := [(vx, U x), (vy, U y)]) qS)) (Seals.sub qS)))
    · rintro ⟨k, l, R, vr⟩ ⟨g1, g2, g3, g4, g5⟩
      simp only at g1 g2 g3 g4 g5 ⊢
      refine cmp_split _ rfl (fun hk => ?_) (fun hk => ?_)
      · obtain ⟨i, rfl⟩ : ∃ i, k = i + 1 := ⟨k - 1, by omega⟩
        have hi : i < x.length := by omega
        have hxi := dA.get i
        have hRl : (digs R).length ≤ 549755813888 := Nat.le_trans (digs_len_mono (show R ≤ N by omega)) (by rw [hY]; omega)
        have hcons : trimL ([x.getD i 0] ++ digs R) = digs (R * 4294967296 + x.getD i 0) := by
          rw [trimD_eq (Dig.append (Dig.cons hxi Dig.nil) (Dig_digs R)), dv_append, dv_digs]
          congr 1
          simp [dv]; omega
        have hlt : R * 4294967296 + x.getD i 0 < 4294967296 * N := by
          have : (R + 1) * 4294967296 ≤ N * 4294967296 := Nat.mul_le_mul_right _ (by omega)
          rw [Nat.mul_comm 4294967296 N]; omega
        have hdr := dv_drop hi
        have hst : ∀ lo, lo * N ≤ R * 4294967296 + x.getD i 0 → R * 4294967296 + x.getD i 0 < (lo + 1) * N → dv (x.drop i) = dv ((l.set i lo).drop i) * N + (R * 4294967296 + x.getD i 0 - N * lo) := fun lo q1 q2 => by
          rw [hdr, dv_drop_set (by omega)]
          exact div_step1 g5 (by rw [Nat.mul_comm N lo]; omega)
        refine index_fact qM i (by omega) hi fun p => ?_
        refine load_one qM ?_
        refine lit_Uo (x.getD i 0) rfl fun w hw => ?_
        refine append_U 0 rfl hw (Knw.fact qM) (by simp; omega) (by simp; omega) fun v2 hv2 => ?_
        refine call_fn (rTrim_meets v2 ([x.getD i 0] ++ digs R)) (Seals.U 0 rfl hv2) qS ?_
        rintro r1 _ _ ⟨rfl, rfl⟩
        rw [hcons]
        generalize R * 4294967296 + x.getD i 0 = S at *
        refine loop_rule (X := Nat × Nat) (fun z => ([(7, vx), (8, vy), (9, vq), (12, r1), (13, .int .i64 (i : Nat)), (14, .int .u64 (z.1 : Nat)), (15, .int .u64 (z.2 : Nat))], [ownU vq l], [(vx, U x), (vy, U y), (r1, U (digs S))]))
          (fun z => z.1 ≤ z.2 ∧ z.2 < 4294967296 ∧ z.1 * N ≤ S ∧ S < (z.2 + 1) * N) (fun z => z.2 - z.1) rfl ?_ ?_
        · exact again (0, 4294967295) ⟨by simp, by simp, by simp, hlt⟩ trivial qF (Seals.sub qS)
        · rintro ⟨lo, hi'⟩ ⟨f1, f2, f3, f4⟩
          simp only at f1 f2 f3 f4 ⊢
          refine cmp_split _ rfl (fun hlo => ?_) (fun hlo => ?_)
          · refine ar rfl qI ?_
            refine ar rfl qI ?_
            refine quo_rule (by omega) (by omega) qI ?_
            have hmid : ((lo : Int) + hi' + 1) / 2 = (((lo + hi' + 1) / 2 : Nat) : Int) := by omega
            rw [hmid]
            have hm1 : lo < (lo + hi' + 1) / 2 := by omega
            have hm2 : (lo + hi' + 1) / 2 ≤ hi' := by omega
            generalize (lo + hi' + 1) / 2 = mid at *
            have htm := rtimes_meets vy y mid dB (by omega) (by omega)
            rw [eB] at htm
            refine call_fn htm (Seals.refl _ _) qS ?_
            rintro w2 _ _ ⟨rfl, rfl⟩
            refine call_fn (cmpDigits_meets w2 r1 (N * mid) S) (Seals.refl _ _) qS ?_
            rintro _ _ _ ⟨rfl, rfl, rfl⟩
            refine cmp_split _ rfl (fun hc => ?_) (fun hc => ?_)
            · have hle : N * mid ≤ S := by
                refine Nat.not_lt.1 fun h => ?_
                have : cmpN (N * mid) S = 1 := by unfold cmpN; rw [if_neg (by omega), if_pos h]
                omega
              exact again (mid, hi') ⟨hm2, f2, by simp only; rw [Nat.mul_comm]; exact hle, f4⟩ (by simp only; omega) qF (Seals.sub qS)
            · have hgt : S < N * mid := by
                refine Nat.not_le.1 fun h => ?_
                have : cmpN (N * mid) S ≤ 0 := by
                  unfold cmpN
                  split
                  · decide
                  · split
                    · omega
                    · decide
                omega
              refine ar rfl qI ?_
              refine again (lo, mid - 1) ⟨by simp only; omega, by simp only; omega, f3, ?_⟩ (by simp only; omega) qF (Seals.sub qS)
              simp only
              rw [show mid - 1 + 1 = mid by omega, Nat.mul_comm]; exact hgt
          · have hll : hi' = lo := by omega
            subst hll
            have hS := hst hi' f3 f4
            obtain ⟨e1, e2⟩ := digit_of f3 f4
            have hlen : (digs (N * hi')).length ≤ (digs S).length := digs_len_mono (by rw [Nat.mul_comm]; exact f3)
            have hmod := Nat.mod_lt S hN0
            refine index_U 0 rfl hq i rfl (by omega) ?_
            refine store_U 0 rfl hi' rfl (by omega) ?_
            have htm := rtimes_meets vy y hi' dB (by omega) (by omega)
            rw [eB] at htm
            refine call_fn htm (Seals.refl _ _) qS ?_
            rintro w2 _ _ ⟨rfl, rfl⟩
            have hSl : (digs S).length ≤ 2199023255552 := by
              refine Nat.le_trans (digs_len_mono (a := S) (show S ≤ N * 4294967296 by rw [Nat.mul_comm]; omega)) ?_
              refine Nat.le_trans (digs_length_le (k := y.length + 1) ?_) (by omega)
              have := dv_lt dB
              rw [eB] at this
              rw [Nat.pow_succ]
              exact Nat.mul_lt_mul_of_pos_right this (by decide)
            have hsb := rsub_meets r1 w2 (digs S) (digs (N * hi')) (Dig_digs _) (Dig_digs _) hSl hlen (by rw [dv_digs, dv_digs, Nat.mul_comm]; exact f3)
            rw [dv_digs, dv_digs] at hsb
            refine call_fn hsb (Seals.refl _ _) qS ?_
            rintro w3 _ _ ⟨rfl, rfl⟩
            refine ar rfl qI ?_
            exact again (i, l.set i hi', S - N * hi', w3) ⟨by simp only; omega, by simp [g2], g3.set _ f2, by simp only; omega, hS⟩ (by simp only; omega) qF (Seals.sub qS)
      · have hk0 : k = 0 := by omega
        subst hk0
        rw [List.drop_zero, List.drop_zero, eA] at g5
        obtain ⟨e1, e2⟩ := digit_of (R := M) (Y := N) (lo := dv l) (by omega) (by rw [Nat.succ_mul]; omega)
        have e3 : M % N = R := by rw [← e2, Nat.mul_comm N]; omega
        have hRl : (digs R).length ≤ 549755813888 := Nat.le_trans (digs_len_mono (show R ≤ N by omega)) (by rw [hY]; omega)
        refine call_fn (limbs_meets vq l g3 (by omega)) (Seals.U 0 rfl hq) qS ?_
        rintro r1 _ _ ⟨rfl, rfl⟩
        refine call_fn (limbs_meets vr (digs R) (Dig_digs _) (by omega)) (Seals.refl _ _) qS ?_
        rintro r2 _ _ ⟨rfl, rfl⟩
        refine fin ⟨rfl, r1, r2, rfl, rfl⟩ (Seals.cons ((Knw.fact qM).cast (by rw [e1])) (Seals.cons ((Knw.fact qM).cast (by rw [e3, dv_digs])) (Seals.nil _ _)))
open Go.RowKit
theorem one_sz {e : Nat} (h : 1 ≤ e) : sz 1 e := Nat.lt_of_lt_of_le (show (1 : Int).natAbs < 18446744073709551616 ^ 1 by decide) (Nat.pow_le_pow_right (by decide) h)
theorem div_uniq {x y q r : Int} (h0 : y ≠ 0) (e : x = y * q + r) (h1 : 0 ≤ r) (h2 : r < y.natAbs) : x / y = q ∧ x % y = r := by
  have e1 : x % y = r := by
    rw [e, Int.add_comm, Int.add_mul_emod_self_left]
    rcases Int.lt_or_gt_of_ne h0 with h | h
    · rw [← Int.emod_neg]; exact Int.emod_eq_of_lt h1 (by omega)
    · exact Int.emod_eq_of_lt h1 (by omega)
  refine ⟨?_, e1⟩
  have h3 := Int.mul_ediv_add_emod x y
  rw [e1] at h3
  have h4 : y * (x / y) = y * q := by omega
  exact Int.eq_of_mul_eq_mul_left h0 h4
theorem rAbs_meets (v : Value) (s : Bool) (a : List Nat) (ha : Lim a) (la : a.length ≤ 1099511627776) :
    Meets Tryz.prog 94 [v] [(v, I s a)] (fun r os fs => os = [] ∧ fs = [(r, zd ((iv s a).natAbs : Nat))]) := by
  refine meets_of_vc Tryz.func94 (by kernel_rfl) rfl (by kernel_rfl) (Nat.le_of_ble_eq_true rfl) ?_
  refine box_rule (Reads.fact (d := I s a) qM) fun p hp => ?_
  refine alloc_rule (d := I false []) fun o ho => ?_
  refine field_box 1 rfl hp ?_
  refine load_box_field 1 rfl (Part.right (Part.refl _)) (load_L _) fun u => ?_
  refine call_fn (rMake_meets u false a ha la) (Seals.refl _ _) qS ?_
  rintro r0 _ _ ⟨rfl, rfl⟩
  rw [show iv false a = ((iv s a).natAbs : Nat) by rw [iv_abs]; simp [iv]]
  generalize ((iv s a).natAbs : Int) = x
  refine store_box (d := zd x) 0 rfl ho rfl (by kernel_rfl) ?_ ?_; exact Reads.fact qM
  refine load_box (d := zd x) 0 rfl ho rfl (load_I _ _) fun r => ?_
  exact fin ⟨rfl, rfl⟩ (Seals.trans (Seals.trans (Seals.drop 0 _ _) (Seals.drop 0 _ _)) (Seals.sub qS))
theorem sgn_div {x y : Int} (h0 : y ≠ 0) :
    let q0 : Int := if decide (x < 0) = decide (y < 0) then ((x.natAbs / y.natAbs : Nat) : Int) else -((x.natAbs / y.natAbs : Nat) : Int)
    let r0 : Int := if x < 0 then -((x.natAbs % y.natAbs : Nat) : Int) else ((x.natAbs % y.natAbs : Nat) : Int)
    (r0 < 0 → x / y = (if y < 0 then q0 + 1 else q0 - 1) ∧ x % y = r0 + y.natAbs) ∧ (¬ r0 < 0 → x / y = q0 ∧ x % y = r0) := by
  intro q0 r0
  have hY : 0 < y.natAbs := by omega
  have hm := Nat.mod_lt x.natAbs hY
  have hd := Nat.div_add_mod x.natAbs y.natAbs
  have e : x = y * q0 + r0 := by
    have h1 : ((y.natAbs * (x.natAbs / y.natAbs) + x.natAbs % y.natAbs : Nat) : Int) = x.natAbs := by rw [hd]
    rw [Int.natCast_add, Int.natCast_mul] at h1
    show x = y * (if decide (x < 0) = decide (y < 0) then _ else _) + (if x < 0 then _ else _)
    generalize ((x.natAbs / y.natAbs : Nat) : Int) = Q at *
    generalize ((x.natAbs % y.natAbs : Nat) : Int) = R at *
    by_cases hx : x < 0
    · by_cases hy : y < 0
      · have ey : (y.natAbs : Int) = -y := by omega
        rw [ey, Int.neg_mul] at h1
        simp only [hx, hy, decide_true, if_true]; omega
      · have ey : (y.natAbs : Int) = y := by omega
        rw [ey] at h1
        simp only [hx, hy, decide_true, decide_false, if_true, Bool.true_eq_false, if_false]
        rw [Int.mul_neg]; omega
    · by_cases hy : y < 0
      · have ey : (y.natAbs : Int) = -y := by omega
        rw [ey, Int.neg_mul] at h1
        simp only [hx, hy, decide_true, decide_false, Bool.false_eq_true, if_false]
        rw [Int.mul_neg]; omega
      · have ey : (y.natAbs : Int) = y := by omega
        rw [ey] at h1
        simp only [hx, hy, decide_false, if_true, if_false]; omega
  have hr : r0.natAbs = x.natAbs % y.natAbs := by
    show (if x < 0 then -((x.natAbs % y.natAbs : Nat) : Int) else ((x.natAbs % y.natAbs : Nat) : Int)).natAbs = _
    split <;> omega
  constructor
  · intro hr0
    refine div_uniq h0 ?_ (by omega) (by omega)
    by_cases hy : y < 0
    · rw [if_pos hy, Int.mul_add, Int.mul_one]; omega
    · rw [if_neg hy, Int.mul_sub, Int.mul_one]; omega
  · intro hr0
    exact div_uniq h0 e (by omega) (by omega)
theorem rZDivMod_meets (v w : Value) (s t : Bool) (a b : List Nat) (ha : Lim a) (hb : Lim b) (la : a.length ≤ 34359738368) (lb : b.length ≤ 34359738368) (h0 : iv t b ≠ 0) :
    Meets Tryz.prog 58 [v, w] [(v, I s a), (w, I t b)] (fun r os fs => os = [] ∧ ∃ q m, r = .tuple #[q, m, .bool true] ∧ fs = [(q, zd (iv s a / iv t b)), (m, zd (iv s a % iv t b))]) := by
  have hxs : sz (iv s a) a.length := sz_jv (x := (s, a)) ha (Nat.le_refl _)
  have hys : sz (iv t b) b.length := sz_jv (x := (t, b)) hb (Nat.le_refl _)
  have n1 := fun u => rZNorm_meets u s a ha (by omega)
  have n2 := fun u => rZNorm_meets u t b hb (by omega)
  refine meets_of_vc Tryz.func58 (by kernel_rfl) rfl (by kernel_rfl) (Nat.le_of_ble_eq_true rfl) ?_
  refine box_rule (Reads.fact (d := I s a) qM) fun p hp => ?_
  refine box_rule (Reads.fact (d := I t b) qM) fun q hq => ?_
  refine alloc_rule (d := I false []) fun o ho => ?_
  refine alloc_rule (d := I false []) fun o2 ho2 => ?_
  refine load_box (d := I s a) 3 rfl hp rfl (load_I _ _) fun v1 => ?_
  refine call_fn (n1 v1) (Seals.refl _ _) qS ?_
  rintro v2 _ _ ⟨rfl, rfl⟩
  refine store_box (d := zd (iv s a)) 3 rfl hp rfl (by kernel_rfl) ?_ ?_; exact Reads.fact qM
  refine load_box (d := I t b) 2 rfl hq rfl (load_I _ _) fun w1 => ?_
  refine call_fn (n2 w1) (Seals.refl _ _) qS ?_
  rintro w2 _ _ ⟨rfl, rfl⟩
  refine store_box (d := zd (iv t b)) 2 rfl hq rfl (by kernel_rfl) ?_ ?_; exact Reads.fact qM
  generalize iv s a = x at *
  generalize iv t b = y at *
  have hx1 := hxs.len
  have hy1 := hys.len
  have hsg := sgn_div (x := x) h0
  simp only at hsg
  have hY : 0 < y.natAbs := by omega
  have hR := Nat.mod_lt x.natAbs hY
  have hQ := Nat.div_le_self x.natAbs y.natAbs
  have lQ : (lims (x.natAbs / y.natAbs)).length ≤ 1099511627776 := Nat.le_trans (lims_len_le hQ) (by omega)
  have lR : (lims (x.natAbs % y.natAbs)).length ≤ 1099511627776 := Nat.le_trans (lims_len_le (Nat.le_of_lt hR)) (by omega)
  have hdm := fun u u' => rDivMod_meets u u' (lims x.natAbs) (lims y.natAbs) (Lim_lims _) (Lim_lims _) (by omega) (by omega) (by rw [nv_lims]; omega)
  simp only [nv_lims] at hdm
  have sR : ∀ r : Int, r.natAbs = x.natAbs % y.natAbs → sz r (a.length + b.length + 1) := fun r hr => by
    have h1 := hys.mono (show b.length ≤ a.length + b.length + 1 by omega)
    unfold sz at h1 ⊢; omega
  have sQ : ∀ r : Int, r.natAbs = x.natAbs / y.natAbs → sz r (a.length + b.length + 1) := fun r hr => by
    have h1 := hxs.mono (show a.length ≤ a.length + b.length + 1 by omega)
    unfold sz at h1 ⊢; omega
  have sY : sz ((y.natAbs : Nat) : Int) (a.length + b.length + 1) := by
    have h1 := hys.mono (show b.length ≤ a.length + b.length + 1 by omega)
    unfold sz at h1 ⊢; omega
  have hab := fun u => rAbs_meets u (decide (y < 0)) (lims y.natAbs) (Lim_lims _) (by omega)
  rw [iv_zd] at hab
  obtain ⟨R0, hR0⟩ : ∃ R0 : Int, (if x < 0 then -((x.natAbs % y.natAbs : Nat) : Int) else ((x.natAbs % y.natAbs : Nat) : Int)) = R0 := ⟨_, rfl⟩
  have hR0e : R0 = if decide (x < 0) = true then -((x.natAbs % y.natAbs : Nat) : Int) else ((x.natAbs % y.natAbs : Nat) : Int) := by
    rw [← hR0]
    by_cases h : x < 0
    · simp [h]
    · simp [h]
  have hR0a : R0.natAbs = x.natAbs % y.natAbs := by rw [← hR0]; split <;> omega
  rw [hR0] at hsg
  have sR0 := sR R0 hR0a
  have one : sz 1 (a.length + b.length + 1) := one_sz (by omega)
  have hE : a.length + b.length + 1 ≤ 137438953472 := by omega
  generalize hQn : x.natAbs / y.natAbs = Q at *
  generalize hRn : x.natAbs % y.natAbs = R at *
  generalize a.length + b.length + 1 = E at *
  refine field_box 3 rfl hp ?_
  refine load_box_field (d := U (lims (x).natAbs)) 3 rfl (Part.right (Part.refl _)) (load_L _) fun u1 => ?_
  refine field_box 2 rfl hq ?_
  refine load_box_field (d := U (lims (y).natAbs)) 2 rfl (Part.right (Part.refl _)) (load_L _) fun u2 => ?_
  refine call_fn (hdm u1 u2) (Seals.refl _ _) qS ?_
  rintro _ _ _ ⟨rfl, z1, z2, rfl, rfl⟩
  refine field_box 3 rfl hp ?_
  refine load_box_field_one (u := .bool (decide (x < 0))) 3 rfl (Part.left (Part.refl _)) ?_
  refine field_box 2 rfl hq ?_
  refine load_box_field_one (u := .bool (decide (y < 0))) 2 rfl (Part.left (Part.refl _)) ?_
  refine bne_split (fun hc => ?_) (fun hc => ?_)
  · rw [if_neg hc] at hsg
    refine call_fn (rMake_of z1 true Q (-(Q : Int)) lQ rfl) (Seals.refl _ _) qS ?_
    rintro m1 _ _ ⟨rfl, rfl⟩
    refine alloc_rule (d := I false []) fun q2 hq2 => ?_
    refine store_box (d := zd (-(Q : Int))) 0 rfl hq2 rfl (by kernel_rfl) ?_ ?_; exact Reads.fact qM
    refine field_box 4 rfl hp ?_
    refine load_box_field_one (u := .bool (decide (x < 0))) 4 rfl (Part.left (Part.refl _)) ?_
    refine call_fn (rMake_of z2 (decide (x < 0)) R R0 lR hR0e) (Seals.refl _ _) qS ?_
    rintro m2 _ _ ⟨rfl, rfl⟩
    refine alloc_rule (d := I false []) fun r2 hr2 => ?_
    refine store_box (d := zd R0) 0 rfl hr2 rfl (by kernel_rfl) ?_ ?_; exact Reads.fact qM
    refine field_box 0 rfl hr2 ?_
    refine load_box_field_one (u := .bool (decide (R0 < 0))) 0 rfl (Part.left (Part.refl _)) ?_
    have sQ0 := sQ (-(Q : Int)) (by omega)
    by_cases hneg : R0 < 0
    · obtain ⟨e1, e2⟩ := hsg.1 hneg
      have had := fun u u' => rAddZ u u' R0 ((y.natAbs : Nat) : Int) E sR0 sY hE
      rw [← e2] at had
      rw [decide_eq_true hneg]
      refine draw_rule [0, 1, 2, 3, 4] [0, 1, 2, 3, 4] (by kernel_rfl) (by kernel_rfl) ?_
      refine load_box (d := zd R0) 0 rfl hr2 rfl (load_I _ _) fun y1 => ?_
      refine load_box (d := zd y) 4 rfl hq rfl (load_I _ _) fun y2 => ?_
      refine call_fn (hab y2) (Seals.refl _ _) qS ?_
      rintro y3 _ _ ⟨rfl, rfl⟩
      refine call_fn (had y1 y3) (Seals.refl _ _) qS ?_
      rintro y4 _ _ ⟨rfl, rfl⟩
      refine store_box (d := zd (x % y)) 0 rfl hr2 rfl (by kernel_rfl) ?_ ?_; exact Reads.fact qM
      refine field_box 4 rfl hq ?_
      refine load_box_field_one (u := .bool (decide (y < 0))) 4 rfl (Part.left (Part.refl _)) ?_
      by_cases hy0 : y < 0
      · rw [if_pos hy0] at e1
        have ha2 := fun u u' => rAddZ u u' (-(Q : Int)) 1 E sQ0 one hE
        rw [← e1] at ha2
        rw [decide_eq_true hy0]
        refine draw_rule [0, 1, 2, 3] [0, 1, 2, 3] (by kernel_rfl) (by kernel_rfl) ?_
        refine load_box (d := zd (-(Q : Int))) 1 rfl hq2 rfl (load_I _ _) fun y5 => ?_
        refine call_fn (rOf_meets 1 (by decide) (by decide)) (Seals.refl _ _) qS ?_
        rintro y6 _ _ ⟨rfl, rfl⟩
        refine call_fn (ha2 y5 y6) (Seals.refl _ _) qS ?_
        rintro y7 _ _ ⟨rfl, rfl⟩
        refine store_box (d := zd (x / y)) 1 rfl hq2 rfl (by kernel_rfl) ?_ ?_; exact Reads.fact qM
        refine draw_ord [0, 2, 1, 3, 4] (by kernel_rfl) ?_
        refine ord_split 1 2 (by kernel_rfl) (by kernel_rfl) (by kernel_rfl) ?_ ?_
        · refine ord_go [0, 1, 2, 3, 4] (by kernel_rfl) (by kernel_rfl) ?_
          refine load_box (d := zd (x / y)) 1 rfl hq2 rfl (load_I _ _) fun t1 => ?_
          refine load_box (d := zd (x % y)) 0 rfl hr2 rfl (load_I _ _) fun t2 => ?_
          refine store_box (d := zd (x / y)) 3 rfl ho rfl (by kernel_rfl) ?_ ?_; exact Reads.fact qM
          refine store_box (d := zd (x % y)) 2 rfl ho2 rfl (by kernel_rfl) ?_ ?_; exact Reads.fact qM
          refine load_box (d := zd (x / y)) 3 rfl ho rfl (load_I _ _) fun r1 => ?_
          refine load_box (d := zd (x % y)) 2 rfl ho2 rfl (load_I _ _) fun r2' => ?_
          exact fin ⟨rfl, r1, r2', rfl, rfl⟩ (Seals.trans (Seals.drop 0 _ _) (Seals.trans (Seals.drop 0 _ _) (Seals.trans (Seals.drop 0 _ _) (Seals.trans (Seals.drop 0 _ _) (Seals.trans (Seals.drop 0 _ _) (Seals.trans (Seals.drop 0 _ _) (Seals.sub (fs' := [(r1, zd (x / y)), (r2', zd (x % y))]) qS)))))))
        · refine ord_go [0, 2, 1, 3, 4] (by kernel_rfl) (by kernel_rfl) ?_
          refine load_box (d := zd (x / y)) 1 rfl hq2 rfl (load_I _ _) fun t1 => ?_
          refine store_box (d := zd (x / y)) 3 rfl ho rfl (by kernel_rfl) ?_ ?_; exact Reads.fact qM
          refine load_box (d := zd (x % y)) 0 rfl hr2 rfl (load_I _ _) fun t2 => ?_
          refine store_box (d := zd (x % y)) 2 rfl ho2 rfl (by kernel_rfl) ?_ ?_; exact Reads.fact qM
          refine load_box (d := zd (x / y)) 3 rfl ho rfl (load_I _ _) fun r1 => ?_
          refine load_box (d := zd (x % y)) 2 rfl ho2 rfl (load_I _ _) fun r2' => ?_
          exact fin ⟨rfl, r1, r2', rfl, rfl⟩ (Seals.trans (Seals.drop 0 _ _) (Seals.trans (Seals.drop 0 _ _) (Seals.trans (Seals.drop 0 _ _) (Seals.trans (Seals.drop 0 _ _) (Seals.trans (Seals.drop 0 _ _) (Seals.trans (Seals.drop 0 _ _) (Seals.sub (fs' := [(r1, zd (x / y)), (r2', zd (x % y))]) qS)))))))
      · rw [if_neg hy0] at e1
        have ha2 := fun u u' => rSubZ u u' (-(Q : Int)) 1 E sQ0 one hE
        rw [← e1] at ha2
        rw [decide_eq_false hy0]
        refine draw_rule [0, 1, 2, 3] [0, 1, 2, 3] (by kernel_rfl) (by kernel_rfl) ?_
        refine load_box (d := zd (-(Q : Int))) 1 rfl hq2 rfl (load_I _ _) fun y5 => ?_
        refine call_fn (rOf_meets 1 (by decide) (by decide)) (Seals.refl _ _) qS ?_
        rintro y6 _ _ ⟨rfl, rfl⟩
        refine call_fn (ha2 y5 y6) (Seals.refl _ _) qS ?_
        rintro y7 _ _ ⟨rfl, rfl⟩
        refine store_box (d := zd (x / y)) 1 rfl hq2 rfl (by kernel_rfl) ?_ ?_; exact Reads.fact qM
        refine draw_ord [0, 2, 1, 3, 4] (by kernel_rfl) ?_
        refine ord_split 1 2 (by kernel_rfl) (by kernel_rfl) (by kernel_rfl) ?_ ?_
        · refine ord_go [0, 1, 2, 3, 4] (by kernel_rfl) (by kernel_rfl) ?_
          refine load_box (d := zd (x / y)) 1 rfl hq2 rfl (load_I _ _) fun t1 => ?_
          refine load_box (d := zd (x % y)) 0 rfl hr2 rfl (load_I _ _) fun t2 => ?_
          refine store_box (d := zd (x / y)) 3 rfl ho rfl (by kernel_rfl) ?_ ?_; exact Reads.fact qM
          refine store_box (d := zd (x % y)) 2 rfl ho2 rfl (by kernel_rfl) ?_ ?_; exact Reads.fact qM
          refine load_box (d := zd (x / y)) 3 rfl ho rfl (load_I _ _) fun r1 => ?_
          refine load_box (d := zd (x % y)) 2 rfl ho2 rfl (load_I _ _) fun r2' => ?_
          exact fin ⟨rfl, r1, r2', rfl, rfl⟩ (Seals.trans (Seals.drop 0 _ _) (Seals.trans (Seals.drop 0 _ _) (Seals.trans (Seals.drop 0 _ _) (Seals.trans (Seals.drop 0 _ _) (Seals.trans (Seals.drop 0 _ _) (Seals.trans (Seals.drop 0 _ _) (Seals.sub (fs' := [(r1, zd (x / y)), (r2', zd (x % y))]) qS)))))))
        · refine ord_go [0, 2, 1, 3, 4] (by kernel_rfl) (by kernel_rfl) ?_
          refine load_box (d := zd (x / y)) 1 rfl hq2 rfl (load_I _ _) fun t1 => ?_
          refine store_box (d := zd (x / y)) 3 rfl ho rfl (by kernel_rfl) ?_ ?_; exact Reads.fact qM
          refine load_box (d := zd (x % y)) 0 rfl hr2 rfl (load_I _ _) fun t2 => ?_
          refine store_box (d := zd (x % y)) 2 rfl ho2 rfl (by kernel_rfl) ?_ ?_; exact Reads.fact qM
          refine load_box (d := zd (x / y)) 3 rfl ho rfl (load_I _ _) fun r1 => ?_
          refine load_box (d := zd (x % y)) 2 rfl ho2 rfl (load_I _ _) fun r2' => ?_
          exact fin ⟨rfl, r1, r2', rfl, rfl⟩ (Seals.trans (Seals.drop 0 _ _) (Seals.trans (Seals.drop 0 _ _) (Seals.trans (Seals.drop 0 _ _) (Seals.trans (Seals.drop 0 _ _) (Seals.trans (Seals.drop 0 _ _) (Seals.trans (Seals.drop 0 _ _) (Seals.sub (fs' := [(r1, zd (x / y)), (r2', zd (x % y))]) qS)))))))
    · obtain ⟨e1, e2⟩ := hsg.2 hneg
      rw [decide_eq_false hneg]
      rw [← e1, ← e2]
      refine draw_ord [0, 2, 1, 3, 4] (by kernel_rfl) ?_
      refine ord_split 1 2 (by kernel_rfl) (by kernel_rfl) (by kernel_rfl) ?_ ?_
      · refine ord_go [0, 1, 2, 3, 4] (by kernel_rfl) (by kernel_rfl) ?_
        refine load_box (d := zd (x / y)) 1 rfl hq2 rfl (load_I _ _) fun t1 => ?_
        refine load_box (d := zd (x % y)) 0 rfl hr2 rfl (load_I _ _) fun t2 => ?_
        refine store_box (d := zd (x / y)) 3 rfl ho rfl (by kernel_rfl) ?_ ?_; exact Reads.fact qM
        refine store_box (d := zd (x % y)) 2 rfl ho2 rfl (by kernel_rfl) ?_ ?_; exact Reads.fact qM
        refine load_box (d := zd (x / y)) 3 rfl ho rfl (load_I _ _) fun r1 => ?_
        refine load_box (d := zd (x % y)) 2 rfl ho2 rfl (load_I _ _) fun r2' => ?_
        exact fin ⟨rfl, r1, r2', rfl, rfl⟩ (Seals.trans (Seals.drop 0 _ _) (Seals.trans (Seals.drop 0 _ _) (Seals.trans (Seals.drop 0 _ _) (Seals.trans (Seals.drop 0 _ _) (Seals.trans (Seals.drop 0 _ _) (Seals.trans (Seals.drop 0 _ _) (Seals.sub (fs' := [(r1, zd (x / y)), (r2', zd (x % y))]) qS)))))))
      · refine ord_go [0, 2, 1, 3, 4] (by kernel_rfl) (by kernel_rfl) ?_
        refine load_box (d := zd (x / y)) 1 rfl hq2 rfl (load_I _ _) fun t1 => ?_
        refine store_box (d := zd (x / y)) 3 rfl ho rfl (by kernel_rfl) ?_ ?_; exact Reads.fact qM
        refine load_box (d := zd (x % y)) 0 rfl hr2 rfl (load_I _ _) fun t2 => ?_
        refine store_box (d := zd (x % y)) 2 rfl ho2 rfl (by kernel_rfl) ?_ ?_; exact Reads.fact qM
        refine load_box (d := zd (x / y)) 3 rfl ho rfl (load_I _ _) fun r1 => ?_
        refine load_box (d := zd (x % y)) 2 rfl ho2 rfl (load_I _ _) fun r2' => ?_
        exact fin ⟨rfl, r1, r2', rfl, rfl⟩ (Seals.trans (Seals.drop 0 _ _) (Seals.trans (Seals.drop 0 _ _) (Seals.trans (Seals.drop 0 _ _) (Seals.trans (Seals.drop 0 _ _) (Seals.trans (Seals.drop 0 _ _) (Seals.trans (Seals.drop 0 _ _) (Seals.sub (fs' := [(r1, zd (x / y)), (r2', zd (x % y))]) qS)))))))
  · rw [if_pos hc] at hsg
    refine call_fn (rMake_of z1 false Q (Q : Int) lQ rfl) (Seals.refl _ _) qS ?_
    rintro m1 _ _ ⟨rfl, rfl⟩
    refine alloc_rule (d := I false []) fun q2 hq2 => ?_
    refine store_box (d := zd (Q : Int)) 0 rfl hq2 rfl (by kernel_rfl) ?_ ?_; exact Reads.fact qM
    refine field_box 4 rfl hp ?_
    refine load_box_field_one (u := .bool (decide (x < 0))) 4 rfl (Part.left (Part.refl _)) ?_
    refine call_fn (rMake_of z2 (decide (x < 0)) R R0 lR hR0e) (Seals.refl _ _) qS ?_
    rintro m2 _ _ ⟨rfl, rfl⟩
    refine alloc_rule (d := I false []) fun r2 hr2 => ?_
    refine store_box (d := zd R0) 0 rfl hr2 rfl (by kernel_rfl) ?_ ?_; exact Reads.fact qM
    refine field_box 0 rfl hr2 ?_
    refine load_box_field_one (u := .bool (decide (R0 < 0))) 0 rfl (Part.left (Part.refl _)) ?_
    have sQ0 := sQ (Q : Int) (by omega)
    by_cases hneg : R0 < 0
    · obtain ⟨e1, e2⟩ := hsg.1 hneg
      have had := fun u u' => rAddZ u u' R0 ((y.natAbs : Nat) : Int) E sR0 sY hE
      rw [← e2] at had
      rw [decide_eq_true hneg]
      refine draw_rule [0, 1, 2, 3, 4] [0, 1, 2, 3, 4] (by kernel_rfl) (by kernel_rfl) ?_
      refine load_box (d := zd R0) 0 rfl hr2 rfl (load_I _ _) fun y1 => ?_
      refine load_box (d := zd y) 4 rfl hq rfl (load_I _ _) fun y2 => ?_
      refine call_fn (hab y2) (Seals.refl _ _) qS ?_
      rintro y3 _ _ ⟨rfl, rfl⟩
      refine call_fn (had y1 y3) (Seals.refl _ _) qS ?_
      rintro y4 _ _ ⟨rfl, rfl⟩
      refine store_box (d := zd (x % y)) 0 rfl hr2 rfl (by kernel_rfl) ?_ ?_; exact Reads.fact qM
      refine field_box 4 rfl hq ?_
      refine load_box_field_one (u := .bool (decide (y < 0))) 4 rfl (Part.left (Part.refl _)) ?_
      by_cases hy0 : y < 0
      · rw [if_pos hy0] at e1
        have ha2 := fun u u' => rAddZ u u' (Q : Int) 1 E sQ0 one hE
        rw [← e1] at ha2
        rw [decide_eq_true hy0]
        refine draw_rule [0, 1, 2, 3] [0, 1, 2, 3] (by kernel_rfl) (by kernel_rfl) ?_
        refine load_box (d := zd (Q : Int)) 1 rfl hq2 rfl (load_I _ _) fun y5 => ?_
        refine call_fn (rOf_meets 1 (by decide) (by decide)) (Seals.refl _ _) qS ?_
        rintro y6 _ _ ⟨rfl, rfl⟩
        refine call_fn (ha2 y5 y6) (Seals.refl _ _) qS ?_
        rintro y7 _ _ ⟨rfl, rfl⟩
        refine store_box (d := zd (x / y)) 1 rfl hq2 rfl (by kernel_rfl) ?_ ?_; exact Reads.fact qM
        refine draw_ord [0, 2, 1, 3, 4] (by kernel_rfl) ?_
        refine ord_split 1 2 (by kernel_rfl) (by kernel_rfl) (by kernel_rfl) ?_ ?_
        · refine ord_go [0, 1, 2, 3, 4] (by kernel_rfl) (by kernel_rfl) ?_
          refine load_box (d := zd (x / y)) 1 rfl hq2 rfl (load_I _ _) fun t1 => ?_
          refine load_box (d := zd (x % y)) 0 rfl hr2 rfl (load_I _ _) fun t2 => ?_
          refine store_box (d := zd (x / y)) 3 rfl ho rfl (by kernel_rfl) ?_ ?_; exact Reads.fact qM
          refine store_box (d := zd (x % y)) 2 rfl ho2 rfl (by kernel_rfl) ?_ ?_; exact Reads.fact qM
          refine load_box (d := zd (x / y)) 3 rfl ho rfl (load_I _ _) fun r1 => ?_
          refine load_box (d := zd (x % y)) 2 rfl ho2 rfl (load_I _ _) fun r2' => ?_
          exact fin ⟨rfl, r1, r2', rfl, rfl⟩ (Seals.trans (Seals.drop 0 _ _) (Seals.trans (Seals.drop 0 _ _) (Seals.trans (Seals.drop 0 _ _) (Seals.trans (Seals.drop 0 _ _) (Seals.trans (Seals.drop 0 _ _) (Seals.trans (Seals.drop 0 _ _) (Seals.sub (fs' := [(r1, zd (x / y)), (r2', zd (x % y))]) qS)))))))
        · refine ord_go [0, 2, 1, 3, 4] (by kernel_rfl) (by kernel_rfl) ?_
          refine load_box (d := zd (x / y)) 1 rfl hq2 rfl (load_I _ _) fun t1 => ?_
          refine store_box (d := zd (x / y)) 3 rfl ho rfl (by kernel_rfl) ?_ ?_; exact Reads.fact qM
          refine load_box (d := zd (x % y)) 0 rfl hr2 rfl (load_I _ _) fun t2 => ?_
          refine store_box (d := zd (x % y)) 2 rfl ho2 rfl (by kernel_rfl) ?_ ?_; exact Reads.fact qM
          refine load_box (d := zd (x / y)) 3 rfl ho rfl (load_I _ _) fun r1 => ?_
          refine load_box (d := zd (x % y)) 2 rfl ho2 rfl (load_I _ _) fun r2' => ?_
          exact fin ⟨rfl, r1, r2', rfl, rfl⟩ (Seals.trans (Seals.drop 0 _ _) (Seals.trans (Seals.drop 0 _ _) (Seals.trans (Seals.drop 0 _ _) (Seals.trans (Seals.drop 0 _ _) (Seals.trans (Seals.drop 0 _ _) (Seals.trans (Seals.drop 0 _ _) (Seals.sub (fs' := [(r1, zd (x / y)), (r2', zd (x % y))]) qS)))))))
      · rw [if_neg hy0] at e1
        have ha2 := fun u u' => rSubZ u u' (Q : Int) 1 E sQ0 one hE
        rw [← e1] at ha2
        rw [decide_eq_false hy0]
        refine draw_rule [0, 1, 2, 3] [0, 1, 2, 3] (by kernel_rfl) (by kernel_rfl) ?_
        refine load_box (d := zd (Q : Int)) 1 rfl hq2 rfl (load_I _ _) fun y5 => ?_
        refine call_fn (rOf_meets 1 (by decide) (by decide)) (Seals.refl _ _) qS ?_
        rintro y6 _ _ ⟨rfl, rfl⟩
        refine call_fn (ha2 y5 y6) (Seals.refl _ _) qS ?_
        rintro y7 _ _ ⟨rfl, rfl⟩
        refine store_box (d := zd (x / y)) 1 rfl hq2 rfl (by kernel_rfl) ?_ ?_; exact Reads.fact qM
        refine draw_ord [0, 2, 1, 3, 4] (by kernel_rfl) ?_
        refine ord_split 1 2 (by kernel_rfl) (by kernel_rfl) (by kernel_rfl) ?_ ?_
        · refine ord_go [0, 1, 2, 3, 4] (by kernel_rfl) (by kernel_rfl) ?_
          refine load_box (d := zd (x / y)) 1 rfl hq2 rfl (load_I _ _) fun t1 => ?_
          refine load_box (d := zd (x % y)) 0 rfl hr2 rfl (load_I _ _) fun t2 => ?_
          refine store_box (d := zd (x / y)) 3 rfl ho rfl (by kernel_rfl) ?_ ?_; exact Reads.fact qM
          refine store_box (d := zd (x % y)) 2 rfl ho2 rfl (by kernel_rfl) ?_ ?_; exact Reads.fact qM
          refine load_box (d := zd (x / y)) 3 rfl ho rfl (load_I _ _) fun r1 => ?_
          refine load_box (d := zd (x % y)) 2 rfl ho2 rfl (load_I _ _) fun r2' => ?_
          exact fin ⟨rfl, r1, r2', rfl, rfl⟩ (Seals.trans (Seals.drop 0 _ _) (Seals.trans (Seals.drop 0 _ _) (Seals.trans (Seals.drop 0 _ _) (Seals.trans (Seals.drop 0 _ _) (Seals.trans (Seals.drop 0 _ _) (Seals.trans (Seals.drop 0 _ _) (Seals.sub (fs' := [(r1, zd (x / y)), (r2', zd (x % y))]) qS)))))))
        · refine ord_go [0, 2, 1, 3, 4] (by kernel_rfl) (by kernel_rfl) ?_
          refine load_box (d := zd (x / y)) 1 rfl hq2 rfl (load_I _ _) fun t1 => ?_
          refine store_box (d := zd (x / y)) 3 rfl ho rfl (by kernel_rfl) ?_ ?_; exact Reads.fact qM
          refine load_box (d := zd (x % y)) 0 rfl hr2 rfl (load_I _ _) fun t2 => ?_
          refine store_box (d := zd (x % y)) 2 rfl ho2 rfl (by kernel_rfl) ?_ ?_; exact Reads.fact qM
          refine load_box (d := zd (x / y)) 3 rfl ho rfl (load_I _ _) fun r1 => ?_
          refine load_box (d := zd (x % y)) 2 rfl ho2 rfl (load_I _ _) fun r2' => ?_
          exact fin ⟨rfl, r1, r2', rfl, rfl⟩ (Seals.trans (Seals.drop 0 _ _) (Seals.trans (Seals.drop 0 _ _) (Seals.trans (Seals.drop 0 _ _) (Seals.trans (Seals.drop 0 _ _) (Seals.trans (Seals.drop 0 _ _) (Seals.trans (Seals.drop 0 _ _) (Seals.sub (fs' := [(r1, zd (x / y)), (r2', zd (x % y))]) qS)))))))
    · obtain ⟨e1, e2⟩ := hsg.2 hneg
      rw [decide_eq_false hneg]
      rw [← e1, ← e2]
      refine draw_ord [0, 2, 1, 3, 4] (by kernel_rfl) ?_
      refine ord_split 1 2 (by kernel_rfl) (by kernel_rfl) (by kernel_rfl) ?_ ?_
      · refine ord_go [0, 1, 2, 3, 4] (by kernel_rfl) (by kernel_rfl) ?_
        refine load_box (d := zd (x / y)) 1 rfl hq2 rfl (load_I _ _) fun t1 => ?_
        refine load_box (d := zd (x % y)) 0 rfl hr2 rfl (load_I _ _) fun t2 => ?_
        refine store_box (d := zd (x / y)) 3 rfl ho rfl (by kernel_rfl) ?_ ?_; exact Reads.fact qM
        refine store_box (d := zd (x % y)) 2 rfl ho2 rfl (by kernel_rfl) ?_ ?_; exact Reads.fact qM
        refine load_box (d := zd (x / y)) 3 rfl ho rfl (load_I _ _) fun r1 => ?_
        refine load_box (d := zd (x % y)) 2 rfl ho2 rfl (load_I _ _) fun r2' => ?_
        exact fin ⟨rfl, r1, r2', rfl, rfl⟩ (Seals.trans (Seals.drop 0 _ _) (Seals.trans (Seals.drop 0 _ _) (Seals.trans (Seals.drop 0 _ _) (Seals.trans (Seals.drop 0 _ _) (Seals.trans (Seals.drop 0 _ _) (Seals.trans (Seals.drop 0 _ _) (Seals.sub (fs' := [(r1, zd (x / y)), (r2', zd (x % y))]) qS)))))))
      · refine ord_go [0, 2, 1, 3, 4] (by kernel_rfl) (by kernel_rfl) ?_
        refine load_box (d := zd (x / y)) 1 rfl hq2 rfl (load_I _ _) fun t1 => ?_
        refine store_box (d := zd (x / y)) 3 rfl ho rfl (by kernel_rfl) ?_ ?_; exact Reads.fact qM
        refine load_box (d := zd (x % y)) 0 rfl hr2 rfl (load_I _ _) fun t2 => ?_
        refine store_box (d := zd (x % y)) 2 rfl ho2 rfl (by kernel_rfl) ?_ ?_; exact Reads.fact qM
        refine load_box (d := zd (x / y)) 3 rfl ho rfl (load_I _ _) fun r1 => ?_
        refine load_box (d := zd (x % y)) 2 rfl ho2 rfl (load_I _ _) fun r2' => ?_
        exact fin ⟨rfl, r1, r2', rfl, rfl⟩ (Seals.trans (Seals.drop 0 _ _) (Seals.trans (Seals.drop 0 _ _) (Seals.trans (Seals.drop 0 _ _) (Seals.trans (Seals.drop 0 _ _) (Seals.trans (Seals.drop 0 _ _) (Seals.trans (Seals.drop 0 _ _) (Seals.sub (fs' := [(r1, zd (x / y)), (r2', zd (x % y))]) qS)))))))
theorem rDivModJZ (v w : Value) (x : Bool × List Nat) (y : Int) (e : Nat) (hx : Lim x.2) (lx : x.2.length ≤ 34359738368) (hy : sz y e) (he : e ≤ 34359738368) (h0 : y ≠ 0) :
    Meets Tryz.prog 58 [v, w] [(v, J x), (w, zd y)] (fun r os fs => os = [] ∧ ∃ q m, r = .tuple #[q, m, .bool true] ∧ fs = [(q, zd (jv x / y)), (m, zd (jv x % y))]) := by
  have h := rZDivMod_meets v w x.1 (decide (y < 0)) x.2 (lims y.natAbs) hx (Lim_lims _) lx (Nat.le_trans hy.len he) (by rw [iv_zd]; exact h0)
  rw [iv_zd] at h
  exact h
theorem rDivModZ (v w : Value) (x y : Int) (e : Nat) (hx : sz x e) (hy : sz y e) (he : e ≤ 34359738368) (h0 : y ≠ 0) :
    Meets Tryz.prog 58 [v, w] [(v, zd x), (w, zd y)] (fun r os fs => os = [] ∧ ∃ q m, r = .tuple #[q, m, .bool true] ∧ fs = [(q, zd (x / y)), (m, zd (x % y))]) := by
  have h := rDivModJZ v w (cn x) y e (Lim_lims _) (Nat.le_trans hx.len he) hy he h0
  rw [jv_cn] at h
  exact h
open Go.RowKit
end Go.Proofs.YtabdfhdddmbmlaaGreat
namespace Go.Proofs.YtabdfhdddmbmlaaGreat
open Go.RowKit
class TStr22 (P : Program) (t : TypeId) : Prop where
  und : ∃ fs f0 f1, P.underlying t = some (.struct fs) ∧ fs = #[f0, f1] ∧ f0.offset = 0 ∧ f1.offset = 2 ∧ (P.info? f0.type).map (·.size) = some 2 ∧ (P.info? f1.type).map (·.size) = some 2 ∧
    (∃ d, P.underlying f0.type = some (.struct d)) ∧ ∃ d, P.underlying f1.type = some (.struct d)
  zero : ∃ i z0 z1 z2 z3, P.info? t = some i ∧ i.zero = some (.agg #[z0, z1, z2, z3])
theorem RdC.two {S : Nat → Prop} {w : World} {d1 d2 : Dat} {cs : List Value} (h : RdC S w (.cat d1 d2) cs) (hc : d1.cells + d2.cells = 2) : ∃ x y, cs = [x, y] := by
  have := RdC.length h
  simp only [Dat.cells, hc] at this
  match cs, this with
  | [x, y], _ => exact ⟨x, y, rfl⟩
open Go.RowKit
theorem info_fr : (Tryz.prog.info? 59).map (fun i => (i.zero, i.size, i.bytes)) = some (some (.agg #[.bool false, .slice none 0 0, .bool false, .slice none 0 0]), 4, 64) := by kernel_rfl
instance : TStr22 Tryz.prog 59 := ⟨⟨_, _, _, Tryz.underlying59, rfl, rfl, rfl, by kernel_rfl, by kernel_rfl, ⟨_, Tryz.underlying34⟩, ⟨_, Tryz.underlying34⟩⟩, by
  obtain ⟨i, h1, _, _, h4⟩ := info_of info_fr
  exact ⟨i, _, _, _, _, h1, h4⟩⟩
instance : TAgg Tryz.prog 59 4 := ⟨⟨_, Tryz.underlying59⟩, by kernel_rfl⟩
instance : TFld Tryz.prog 59 0 0 := ⟨_, _, Tryz.underlying59, rfl, rfl, 1, by kernel_rfl⟩
instance : TFld Tryz.prog 59 1 2 := ⟨_, _, Tryz.underlying59, rfl, rfl, 1, by kernel_rfl⟩
instance : TEl Tryz.prog 59 4 64 := tel info_fr rfl (by decide)
instance tzFr : TZero Tryz.prog 59 (.cat (I false []) (I false [])) :=
  tzero info_fr fun S w => ⟨[.bool false, .slice none 0 0], [.bool false, .slice none 0 0], rfl, ⟨[.bool false], [.slice none 0 0], rfl, rd_false S w, rd_nil S w 1 _⟩, ⟨[.bool false], [.slice none 0 0], rfl, rd_false S w, rd_nil S w 1 _⟩⟩
section
variable {p q r s : Int} {k : Nat}
end
open Go.RowKit
instance : TSl Tryz.prog 52 59 4 := ⟨Tryz.underlying52, by kernel_rfl⟩
instance : TSl Tryz.prog 51 52 1 := ⟨Tryz.underlying51, by kernel_rfl⟩
instance : TOne Tryz.prog 52 := ⟨⟨_, Tryz.underlying52, trivial⟩, by kernel_rfl⟩
instance : TOne Tryz.prog 51 := ⟨⟨_, Tryz.underlying51, trivial⟩, by kernel_rfl⟩
theorem info_frs : (Tryz.prog.info? 52).map (fun i => (i.zero, i.size, i.bytes)) = some (some (.slice none 0 0), 1, 24) := by kernel_rfl
instance : TEl Tryz.prog 52 1 24 := tel info_frs rfl (by decide)
abbrev FX := Int × Int
def f0 : FX := (0, 0)
section
variable {a b c d : Int} {k : Nat}
end
section
variable {G : Mx} {i j l : Nat}
end
theorem rDot_meets (v w : Value) (a b : Row) (k : Nat) (ha : Fit k a) (hb : Fit k b) (hk : k + k + 2 ≤ 137438953472) (lm : a.length ≤ 1073741824) :
    Meets Tryz.prog 23 [v, w] [(v, V a), (w, V b)] (fun r os fs => os = [] ∧ ∃ q, r = .tuple #[q, .int .i64 (if a.length = b.length then 0 else 1)] ∧ fs = [(q, zd (ldt a b))]) := by
  have hs : ∀ i, i ≤ a.length → sz (ip i (rv a) (rv b)) (k + k + 1) := fun i hi => ip_sz (fun c _ => rv_sz ha c) (fun c _ => rv_sz hb c) (by omega)
  refine meets_of_vc Tryz.func23 (by kernel_rfl) rfl (by kernel_rfl) (Nat.le_of_ble_eq_true rfl) ?_
  refine alloc_rule (d := I false []) fun o ho => ?_
  refine len_fact (v := v) qM fun _ => ?_
  refine len_fact (v := w) qM fun _ => ?_
  refine cmp_split _ rfl (fun hne => ?_) (fun heq => ?_)
  · have hne' : a.length ≠ b.length := by omega
    rw [if_neg hne', show ldt a b = 0 from if_neg hne']
    refine build0 (da := .one (.bool false)) (db := U (lims 0)) (fun S w => ⟨[.bool false], [.slice none 0 0], rfl, rd_false S w, by rw [lims_zero]; exact rd_nil S w 1 _⟩) fun zz => ?_
    refine store_box (d := zd 0) 0 rfl ho rfl (by kernel_rfl) ?_ ?_; exact Reads.fact (d := zd 0) qM
    refine load_box (d := zd 0) 0 rfl ho rfl (load_I _ _) fun r => ?_
    exact fin ⟨rfl, r, rfl, rfl⟩ (Seals.trans (Seals.drop 0 _ _) (Seals.sub (fs' := [(r, zd 0)]) qS))
  have hl : a.length = b.length := by omega
  rw [if_pos hl, show ldt a b = ip a.length (rv a) (rv b) from if_pos hl]
  refine build0 (da := .one (.bool false)) (db := U (lims 0)) (fun S w => ⟨[.bool false], [.slice none 0 0], rfl, rd_false S w, by rw [lims_zero]; exact rd_nil S w 1 _⟩) fun zz => ?_
  refine alloc_rule (d := I false []) fun s hs' => ?_
  refine store_box (d := zd 0) 0 rfl hs' rfl (by kernel_rfl) ?_ ?_; exact Reads.fact (d := zd 0) qM
  refine loop_rule (X := Nat) (fun i => ([(0, v), (1, w), (4, o), (6, s), (7, .int .i64 (i : Nat))], [own1 s 2 1 (fun _ => zd (ip i (rv a) (rv b))), own1 o 2 1 (fun _ => I false [])], [(v, V a), (w, V b)]))
    (fun i => i ≤ a.length) (fun i => a.length - i) rfl ?_ ?_
  · exact again 0 (Nat.zero_le _) trivial qF (Seals.trans (Seals.box0 rfl) (Seals.sub (fs' := [(v, V a), (w, V b)]) qS))
  · rintro i hi
    refine len_fact (v := v) qM fun _ => ?_
    refine cmp_split _ rfl (fun hc => ?_) (fun hc => ?_)
    · have hia : i < a.length := by omega
      have f1 := ha.get i
      have f2 := hb.get i
      refine draw_rule [0, 1, 2, 3, 4, 5, 6, 7, 8, 9, 10, 11] [0, 1, 2, 3, 4, 5, 6, 7, 8, 9, 10, 11] (by kernel_rfl) (by kernel_rfl) ?_
      refine load_box (d := zd (ip i (rv a) (rv b))) 0 rfl hs' rfl (load_I _ _) fun x2 => ?_
      refine index_fact (v := v) qM i rfl hia fun a1 => ?_
      refine load_fact (d := J (a.getD i z0)) qM (load_J _) fun x3 => ?_
      refine index_fact (v := w) qM i rfl (by omega) fun a2 => ?_
      refine load_fact (d := J (b.getD i z0)) qM (load_J _) fun x4 => ?_
      refine call_fn (rMulJ x3 x4 (a.getD i z0) (b.getD i z0) f1.1 (by omega) f2.1 (by omega)) (Seals.refl _ _) qS ?_
      rintro x5 _ _ ⟨rfl, rfl⟩
      refine call_fn (rAddZ x2 x5 _ _ (k + k + 1) (hs i hi) (((rv_sz ha i).mul (rv_sz hb i)).mono (by omega)) (by omega)) (Seals.refl _ _) qS ?_
      rintro x6 _ _ ⟨rfl, rfl⟩
      refine store_box (d := zd (ip (i + 1) (rv a) (rv b))) 0 rfl hs' rfl (by kernel_rfl) ?_ ?_; exact Reads.fact qM
      refine ar rfl qI ?_
      exact again (i + 1) (by omega) (by simp only; omega) qF (Seals.trans (Seals.box0 rfl) (Seals.sub (fs' := [(v, V a), (w, V b)]) qS))
    · have hia : i = a.length := by omega
      subst hia
      refine load_box (d := zd (ip a.length (rv a) (rv b))) 0 rfl hs' rfl (load_I _ _) fun x2 => ?_
      refine call_fn (rNormZ x2 _ (k + k + 1) (hs _ (Nat.le_refl _)) (by omega)) (Seals.refl _ _) qS ?_
      rintro x3 _ _ ⟨rfl, rfl⟩
      refine store_box (d := zd (ip a.length (rv a) (rv b))) 1 rfl ho rfl (by kernel_rfl) ?_ ?_; exact Reads.fact (v := x3) qM
      refine load_box (d := zd (ip a.length (rv a) (rv b))) 1 rfl ho rfl (load_I _ _) fun r => ?_
      exact fin ⟨rfl, r, rfl, rfl⟩ (Seals.trans (Seals.drop 0 _ _) (Seals.trans (Seals.drop 0 _ _) (Seals.sub (fs' := [(r, zd (ip a.length (rv a) (rv b)))]) qS)))
open Go.RowKit
def tG (M : List (List Int)) : Mx := gr (M.getD 0 []).length (mx M)
def tbv (M : List (List Int)) (v : List Int) : Nat → Int := fun i => ip (M.getD 0 []).length (mx M i) (fun c => v.getD c 0)
def tnum (M : List (List Int)) (v : List Int) (c : Nat) : Int := det M.length (cw (tG M) c (tbv M v))
def tpart (M : List (List Int)) (v : List Int) (i : Nat) : Int := ip i (fun i => tnum M v i / det M.length (tG M)) (tbv M v) - ip (M.getD 0 []).length (fun c => v.getD c 0) (fun c => v.getD c 0)
def tok (M : List (List Int)) (v : List Int) : Prop := (∀ i, i < M.length → tnum M v i % det M.length (tG M) = 0) ∧ tpart M v M.length = 0
instance (M : List (List Int)) (v : List Int) : Decidable (tok M v) := inferInstanceAs (Decidable (_ ∧ _))
def tins (M : List (List Int)) (v : List Int) : List Int × Int :=
  if ¬ (right M ∧ v.length = (M.getD 0 []).length) then ([], 1)
  else if det M.length (tG M) = 0 then ([], 8)
  else if tok M v then ((List.range M.length).map fun i => tnum M v i / det M.length (tG M), 0)
  else ([], 8)
theorem gmx_cn (M : List (List Int)) : gmx (M.map (·.map cn)) = tG M := by
  unfold gmx tG
  rw [rvm_cn, get_cn, List.length_map]
theorem lbv_cn (M : List (List Int)) (v : List Int) : lbv (M.map (·.map cn)) (v.map cn) = tbv M v := by
  funext i
  unfold lbv tbv
  rw [get_cn M 0, List.length_map, rv_cn]
  show ip _ (rvm (M.map (·.map cn)) i) _ = _
  rw [rvm_cn]
theorem linD_cn (M : List (List Int)) : linD (M.map (·.map cn)) = det M.length (tG M) := by
  unfold linD
  rw [gmx_cn, List.length_map]
theorem lnum_cn (M : List (List Int)) (v : List Int) (c : Nat) : lnum (M.map (·.map cn)) (v.map cn) c = tnum M v c := by
  unfold lnum tnum
  rw [gmx_cn, lbv_cn, List.length_map]
theorem lok_cn (M : List (List Int)) (v : List Int) : lok (M.map (·.map cn)) (v.map cn) ↔ tok M v := by
  unfold lok tok lpart tpart
  simp only [lnum_cn, linD_cn, lbv_cn, rv_cn, get_cn M 0, List.length_map]
theorem lins_cn (M : List (List Int)) (v : List Int) : lins (M.map (·.map cn)) (v.map cn) = tins M v := by
  unfold lins tins
  simp only [lnum_cn, linD_cn, get_cn M 0, List.length_map, right_cn, lok_cn]
theorem lvol_cn (M : List (List Int)) : lvol (M.map (·.map cn)) = if right M then det M.length (tG M) else 0 := by
  unfold lvol
  simp only [right_cn, gmx_cn, List.length_map]
theorem lred_cn {M R1 R2 : List (List Int)} {f : Nat} (hr : right M) (hd : det M.length (tG M) ≠ 0) (h : (lrun (M.getD 0 []).length M.length f (mx M) one 1).map (fun R => (matL M.length (M.getD 0 []).length R.1, matL M.length M.length R.2)) = some (R1, R2)) :
    lred (M.map (·.map cn)) = (R1, R2, 0) := by
  have hC : ((M.map (·.map cn)).getD 0 []).length = (M.getD 0 []).length := by rw [get_cn, List.length_map]
  unfold lred
  rw [if_pos ((right_cn M).2 hr), linD_cn, if_neg hd]
  obtain ⟨R, e1, e2⟩ := Option.map_eq_some_iff.1 h
  have hi : Ind ((M.map (·.map cn)).getD 0 []).length (M.map (·.map cn)).length (rvm (M.map (·.map cn))) := (ind_iff _).2 (by rw [linD_cn]; exact hd)
  have e3 : lrd (M.map (·.map cn)) = R := by
    unfold lrd
    rw [rvm_cn, hC, List.length_map]
    rw [rvm_cn, hC, List.length_map] at hi
    exact lrr_eq hi e1
  rw [e3, hC, List.length_map]
  simp only [Prod.mk.injEq] at e2
  rw [e2.1, e2.2]
theorem szM.fit {e : Nat} {v : List Int} (h : szR e v) : Fit e (v.map cn) := Fit_cn h
theorem sameT (v w : Value) (x y : List (List Int)) (h : x = y) : Meets Tryz.prog 12 [v, w] [(v, wd x), (w, wd y)] (fun r os fs => os = [] ∧ fs = [] ∧ r = .bool true) := by
  have := same4W v w x y
  rw [decide_eq_true h] at this
  exact this
theorem exallT (v w : Value) (x y : List Int) (h : x = y) : Meets Tryz.prog 25 [v, w] [(v, vd x), (w, vd y)] (fun r os fs => os = [] ∧ fs = [] ∧ r = .bool true) := by
  have := exactAllW v w x y
  rw [decide_eq_true h] at this
  exact this
theorem exT (v w : Value) (x y : Int) (h : x = y) : Meets Tryz.prog 24 [v, w] [(v, zd x), (w, zd y)] (fun r os fs => os = [] ∧ fs = [] ∧ r = .bool true) := by
  have := exactW v w x y
  rw [decide_eq_true h] at this
  exact this
theorem sh_fits {M : List (List Int)} (h : ∀ r, r ∈ M → ∀ x, x ∈ r → x.natAbs < 18446744073709551616) : Fits 1 (M.map (·.map cn)) := szM.fits fun r hr x hx => by
  have := h r hr x hx
  unfold sz; simpa using this
theorem sh_red (v : Value) : Meets Tryz.prog 10 [v] [(v, wd [[1, 1], [0, 1]])] (fun r os fs => os = [] ∧ ∃ q w, r = .tuple #[q, w, .int .i64 0] ∧ fs = [(q, wd [[-1, 0], [0, 1]]), (w, wd [[-1, 1], [0, 1]])]) := by
  have h := lReduceT v (([[1, 1], [0, 1]] : List (List Int)).map (·.map cn)) 1 (sh_fits (by decide)) (by decide) (by decide) (by decide) (by decide)
  rw [lred_cn (f := 10) (R1 := [[-1, 0], [0, 1]]) (R2 := [[-1, 1], [0, 1]]) (by decide) (by decide +kernel) (by decide +kernel)] at h
  exact h
theorem sh_vol (v : Value) : Meets Tryz.prog 18 [v] [(v, wd [[1, 1], [0, 1]])] (fun r os fs => os = [] ∧ ∃ q, r = .tuple #[q, .int .i64 0] ∧ fs = [(q, zd 1)]) := by
  have h := lVolume_meets v (([[1, 1], [0, 1]] : List (List Int)).map (·.map cn)) 1 (sh_fits (by decide)) (by decide) (by decide) (by decide) (by decide)
  rw [if_pos ((right_cn _).2 (by decide)), lvol_cn, if_pos (by decide), show det ([[1, 1], [0, 1]] : List (List Int)).length (tG [[1, 1], [0, 1]]) = 1 by decide +kernel] at h
  exact h
theorem sh_ins1 (v w : Value) : Meets Tryz.prog 20 [v, w] [(v, wd [[2, 0], [0, 2]]), (w, vd [4, -2])] (fun r os fs => os = [] ∧ ∃ q, r = .tuple #[q, .int .i64 0] ∧ fs = [(q, vd [2, -1])]) := by
  have h := lInside_meets v w (([[2, 0], [0, 2]] : List (List Int)).map (·.map cn)) (([4, -2] : List Int).map cn) 1 (sh_fits (by decide)) (Fit_cn fun x hx => by unfold sz; revert x; decide) (by decide) (by decide) (by decide) (by decide)
  rw [lins_cn, show tins [[2, 0], [0, 2]] [4, -2] = ([2, -1], 0) by decide +kernel] at h
  exact h
theorem sh_ins2 (v w : Value) : Meets Tryz.prog 20 [v, w] [(v, wd [[2, 0], [0, 2]]), (w, vd [1, 0])] (fun r os fs => os = [] ∧ ∃ q, r = .tuple #[q, .int .i64 8] ∧ fs = [(q, vd [])]) := by
  have h := lInside_meets v w (([[2, 0], [0, 2]] : List (List Int)).map (·.map cn)) (([1, 0] : List Int).map cn) 1 (sh_fits (by decide)) (Fit_cn fun x hx => by unfold sz; revert x; decide) (by decide) (by decide) (by decide) (by decide)
  rw [lins_cn, show tins [[2, 0], [0, 2]] [1, 0] = ([], 8) by decide +kernel] at h
  exact h
theorem sh_rdd (v : Value) (M : List (List Int)) (b : Bool) (hr : right M) (hl : M.length ≤ 4) (hc : (M.getD 0 []).length ≤ 5) (hz : ∀ r, r ∈ M → ∀ x, x ∈ r → x.natAbs < 18446744073709551616) (hZ : lD 1 M.length + lK 1 M.length + 2 ≤ 268435456) (hb : b = true ↔ lrdc (M.getD 0 []).length M.length (mx M)) :
    Meets Tryz.prog 11 [v] [(v, wd M)] (fun r os fs => os = [] ∧ fs = [] ∧ r = .tuple #[.bool b, .int .i64 0]) := by
  have hC : ((M.map (·.map cn)).getD 0 []).length = (M.getD 0 []).length := by rw [get_cn, List.length_map]
  have h := lReduced_meets v (M.map (·.map cn)) 1 (sh_fits hz) (by decide) (by rw [List.length_map]; omega) (by rw [hC]; omega) (by rw [List.length_map]; exact hZ)
  refine h.mono ?_
  rintro r os fs ⟨h1, h2, p, h3, h4⟩
  rw [if_pos ((right_cn M).2 hr)] at h4
  rw [hC, List.length_map, rvm_cn, right_cn] at h3
  have : p = b := by
    cases p <;> cases b <;> simp_all
  exact ⟨h1, h2, by rw [h4, this]⟩
theorem sh_one {P : Nat → Prop} (h : P 1) : ∀ k, 1 ≤ k → k < 2 → P k := fun k h1 h2 => by
  obtain rfl : k = 1 := by omega
  exact h
instance (m : Nat) (b : Mx) (k j : Nat) : Decidable (lsm m b k j) := inferInstanceAs (Decidable (_ ≤ _))
theorem sh_yes : lrdc 2 2 (mx [[-1, 0], [0, 1]]) :=
  ⟨fun t ht => by
    have : t = 0 ∨ t = 1 ∨ t = 2 := by omega
    rcases this with rfl | rfl | rfl <;> decide +kernel, sh_one ⟨by decide +kernel, by decide +kernel⟩⟩
theorem sh_no : ¬ lrdc 2 2 (mx [[1, 1], [0, 1]]) := fun h => absurd (h.2 1 (by decide) (by decide)).2 (by decide +kernel)
theorem shown4_meets : Meets Tryz.prog 5 [] [] (fun r os fs => os = [] ∧ fs = [] ∧ r = .bool true) := by
  have h1 := fun v => sh_rdd v [[-1, 0], [0, 1]] true (by decide) (by decide) (by decide) (by decide) (by decide) ⟨fun _ => sh_yes, fun _ => rfl⟩
  have h2 := fun v => sh_rdd v [[1, 1], [0, 1]] false (by decide) (by decide) (by decide) (by decide) (by decide) ⟨fun h => absurd h (by decide), fun h => absurd h sh_no⟩
  refine meets_of_vc Tryz.func5 (by kernel_rfl) rfl (by kernel_rfl) (Nat.le_of_ble_eq_true rfl) ?_
  refine lit_IL [1, 1, 0, 1] rfl rfl (by decide) fun s1 => ?_
  refine call_fn (of4W s1 2 2 [1, 1, 0, 1] [[1, 1], [0, 1]] rfl rfl (by decide) (by decide) (by decide) (by decide)) (Seals.refl _ _) qS ?_
  rintro m1 _ _ ⟨rfl, rfl⟩
  refine call_fn (sh_red m1) (Seals.refl _ _) qS ?_
  rintro _ _ _ ⟨rfl, r, u, rfl, rfl⟩
  refine lit_IL [1, 1, 0, 1] rfl rfl (by decide) fun s2 => ?_
  refine call_fn (of4W s2 2 2 [1, 1, 0, 1] [[1, 1], [0, 1]] rfl rfl (by decide) (by decide) (by decide) (by decide)) (Seals.refl _ _) qS ?_
  rintro m2 _ _ ⟨rfl, rfl⟩
  refine call_fn (sh_vol m2) (Seals.refl _ _) qS ?_
  rintro _ _ _ ⟨rfl, vq, rfl, rfl⟩
  refine alloc_rule (d := I false []) fun vb hvb => ?_
  refine store_box (d := zd 1) 0 rfl hvb rfl (by kernel_rfl) ?_ ?_; exact Reads.fact qM
  refine lit_IL [2, 0, 0, 2] rfl rfl (by decide) fun s3 => ?_
  refine call_fn (of4W s3 2 2 [2, 0, 0, 2] [[2, 0], [0, 2]] rfl rfl (by decide) (by decide) (by decide) (by decide)) (Seals.refl _ _) qS ?_
  rintro m3 _ _ ⟨rfl, rfl⟩
  refine lit_IL [4, -2] rfl rfl (by decide) fun s4 => ?_
  refine call_fn (of4W s4 1 2 [4, -2] [[4, -2]] rfl rfl (by decide) (by decide) (by decide) (by decide)) (Seals.refl _ _) qS ?_
  rintro m4 _ _ ⟨rfl, rfl⟩
  refine index_fact (n := 1) qM 0 rfl (by decide) fun i1 => ?_
  refine load_fact (d := vd [4, -2]) qM (load_V _) fun w1 => ?_
  refine call_fn (sh_ins1 m3 w1) (Seals.refl _ _) qS ?_
  rintro _ _ _ ⟨rfl, c, rfl, rfl⟩
  refine lit_IL [2, 0, 0, 2] rfl rfl (by decide) fun s5 => ?_
  refine call_fn (of4W s5 2 2 [2, 0, 0, 2] [[2, 0], [0, 2]] rfl rfl (by decide) (by decide) (by decide) (by decide)) (Seals.refl _ _) qS ?_
  rintro m5 _ _ ⟨rfl, rfl⟩
  refine lit_IL [1, 0] rfl rfl (by decide) fun s6 => ?_
  refine call_fn (of4W s6 1 2 [1, 0] [[1, 0]] rfl rfl (by decide) (by decide) (by decide) (by decide)) (Seals.refl _ _) qS ?_
  rintro m6 _ _ ⟨rfl, rfl⟩
  refine index_fact (n := 1) qM 0 rfl (by decide) fun i2 => ?_
  refine load_fact (d := vd [1, 0]) qM (load_V _) fun w2 => ?_
  refine call_fn (sh_ins2 m5 w2) (Seals.refl _ _) qS ?_
  rintro _ _ _ ⟨rfl, c2, rfl, rfl⟩
  refine call_fn (h1 r) (Seals.refl _ _) qS ?_
  rintro _ _ _ ⟨rfl, rfl, rfl⟩
  refine lit_IL [1, 1, 0, 1] rfl rfl (by decide) fun s7 => ?_
  refine call_fn (of4W s7 2 2 [1, 1, 0, 1] [[1, 1], [0, 1]] rfl rfl (by decide) (by decide) (by decide) (by decide)) (Seals.refl _ _) qS ?_
  rintro m7 _ _ ⟨rfl, rfl⟩
  refine call_fn (h2 m7) (Seals.refl _ _) qS ?_
  rintro _ _ _ ⟨rfl, rfl, rfl⟩
  refine draw_rule [0, 1, 2, 3, 4, 5, 6, 7, 8, 9, 10, 11, 12, 13, 14, 15, 16, 17, 18, 19, 20, 21, 22, 23] [0, 1, 2, 3, 4, 5, 6, 7, 8, 9, 10, 11, 12, 13, 14, 15, 16, 17, 18, 19, 20, 21, 22, 23] (by kernel_rfl) (by kernel_rfl) ?_
  refine lit_IL [-1, 0, 0, 1] rfl rfl (by decide) fun s8 => ?_
  refine call_fn (of4W s8 2 2 [-1, 0, 0, 1] [[-1, 0], [0, 1]] rfl rfl (by decide) (by decide) (by decide) (by decide)) (Seals.refl _ _) qS ?_
  rintro m8 _ _ ⟨rfl, rfl⟩
  refine call_fn (sameT r m8 _ _ rfl) (Seals.refl _ _) qS ?_
  rintro _ _ _ ⟨rfl, rfl, rfl⟩
  refine lit_IL [-1, 1, 0, 1] rfl rfl (by decide) fun s9 => ?_
  refine call_fn (of4W s9 2 2 [-1, 1, 0, 1] [[-1, 1], [0, 1]] rfl rfl (by decide) (by decide) (by decide) (by decide)) (Seals.refl _ _) qS ?_
  rintro m9 _ _ ⟨rfl, rfl⟩
  refine call_fn (sameT u m9 _ _ rfl) (Seals.refl _ _) qS ?_
  rintro _ _ _ ⟨rfl, rfl, rfl⟩
  refine load_box (d := zd 1) 0 rfl hvb rfl (load_I _ _) fun y1 => ?_
  refine call_fn (rOf_meets 1 (by decide) (by decide)) (Seals.refl _ _) qS ?_
  rintro y2 _ _ ⟨rfl, rfl⟩
  refine call_fn (exT y1 y2 _ _ rfl) (Seals.refl _ _) qS ?_
  rintro _ _ _ ⟨rfl, rfl, rfl⟩
  refine lit_IL [2, -1] rfl rfl (by decide) fun s10 => ?_
  refine call_fn (of4W s10 1 2 [2, -1] [[2, -1]] rfl rfl (by decide) (by decide) (by decide) (by decide)) (Seals.refl _ _) qS ?_
  rintro m10 _ _ ⟨rfl, rfl⟩
  refine index_fact (n := 1) qM 0 rfl (by decide) fun i3 => ?_
  refine load_fact (d := vd [2, -1]) qM (load_V _) fun w3 => ?_
  refine call_fn (exallT c w3 _ _ rfl) (Seals.refl _ _) qS ?_
  rintro _ _ _ ⟨rfl, rfl, rfl⟩
  refine cmp_true rfl (by decide) ?_
  refine cmp_true rfl (by decide) ?_
  refine cmp_true rfl (by decide) ?_
  refine cmp_true rfl (by decide) ?_
  refine cmp_true rfl (by decide) ?_
  refine cmp_true rfl (by decide) ?_
  exact fin ⟨rfl, rfl, rfl⟩ (Seals.trans (Seals.drop 0 _ _) (Seals.nil _ _))
open Go.RowKit
noncomputable def M1 (a : List Row) : List (List Int) := matL a.length (a.getD 0 []).length (lrd a).1
noncomputable def M2 (a : List Row) : List (List Int) := matL a.length a.length (lrd a).2
theorem M1_at (a : List Row) {i c : Nat} (hi : i < a.length) (hc : c < (a.getD 0 []).length) : mx (M1 a) i c = (lrd a).1 i c := matL_at _ hi hc
theorem M2_at (a : List Row) {i c : Nat} (hi : i < a.length) (hc : c < a.length) : mx (M2 a) i c = (lrd a).2 i c := matL_at _ hi hc
theorem matL_len0 {R C : Nat} (x : Mx) (hR : 0 < R) : ((matL R C x).getD 0 []).length = C := by rw [matL_row x hR]; simp
theorem matL_right {R C : Nat} (x : Mx) (hR : 0 < R) (hC : 0 < C) : right (matL R C x) := by
  refine ⟨by rw [matL_len]; exact hR, fun r hr => ?_⟩
  rw [matL_len0 x hR]
  unfold matL at hr
  obtain ⟨i, _, rfl⟩ := List.mem_map.1 hr
  simp [hC]
theorem matL_szM {R C e : Nat} {x : Mx} (h : ∀ i c, i < R → c < C → sz (x i c) e) : szM e (matL R C x) := fun r hr y hy => by
  unfold matL at hr
  obtain ⟨i, hi, rfl⟩ := List.mem_map.1 hr
  obtain ⟨c, hc, rfl⟩ := List.mem_map.1 hy
  exact h i c (List.mem_range.1 hi) (List.mem_range.1 hc)
structure Rdd (a : List Row) (k : Nat) : Prop where
  lb : LB (rvm a) (a.getD 0 []).length a.length (lD k a.length) (lK k a.length) (lrd a).1 (lrd a).2
  rd : Rdc (a.getD 0 []).length (lrd a).1 a.length
  dn : dm (a.getD 0 []).length (lrd a).1 a.length = dm (a.getD 0 []).length (rvm a) a.length
section
variable {a : List Row} {k : Nat}
theorem Rdd.same (_ : Rdd a k) : ∀ i c, i < a.length → c < (a.getD 0 []).length → mx (M1 a) i c = (lrd a).1 i c := fun _ _ hi hc => M1_at a hi hc
theorem Rdd.ind (h : Rdd a k) : Ind (a.getD 0 []).length a.length (mx (M1 a)) := h.lb.ind.same h.same
theorem Rdd.len (_ : Rdd a k) : (M1 a).length = a.length := matL_len _ _ _
theorem Rdd.right (_ : Rdd a k) (hr : right a) : right (M1 a) := matL_right _ hr.1 (hr.get hr.1).1
theorem Rdd.fits (h : Rdd a k) : Fits (lK k a.length) ((M1 a).map (·.map cn)) := (matL_szM fun i c hi hc => h.lb.bz i c hi hc).fits
end
open Go.RowKit
theorem lnum_cr (m : List Row) (v : Row) (c : Nat) : lnum m v c = cr (m.getD 0 []).length m.length (rvm m) (rv v) c := rfl
theorem lpart_lft (m : List Row) (v : Row) : lpart m v m.length = lft (m.getD 0 []).length m.length (rvm m) (rv v) (fun i => lnum m v i / linD m) := by
  unfold lpart lft
  rw [Int.sub_eq_add_neg, Int.add_comm]; rfl
theorem lok_iff {m : List Row} {v : Row} (h : linD m ≠ 0) : lok m v ↔ ∃ x : Nat → Int, ∀ c, c < (m.getD 0 []).length → comb m.length x (rvm m) c = rv v c := by
  have hd := h
  rw [linD_dm] at hd
  constructor
  · rintro ⟨h1, h2⟩
    refine ⟨fun i => lnum m v i / linD m, ?_⟩
    rw [lpart_lft] at h2
    refine (inside_lft hd (q := fun i => lnum m v i / linD m) fun k hk => ?_).1 h2
    rw [← lnum_cr, ← linD_dm]
    exact (Int.mul_ediv_cancel' (Int.dvd_of_emod_eq_zero (h1 k hk))).symm
  · rintro ⟨x, hx⟩
    have h1 := inside_all hd hx
    have h3 : ∀ k, k < m.length → lnum m v k / linD m = x k := fun k hk => by
      rw [lnum_cr, h1 k hk, ← linD_dm, Int.mul_ediv_cancel_left _ h]
    refine ⟨fun k hk => by rw [lnum_cr, h1 k hk, ← linD_dm]; exact Int.mul_emod_right _ _, ?_⟩
    rw [lpart_lft, inside_lft hd fun k hk => by rw [h3 k hk]; exact h1 k hk]
    intro c hc
    rw [← hx c hc]
    exact isum_congr fun k hk => by show lnum m v k / linD m * _ = _; rw [h3 k hk]
theorem lins_sum {m : List Row} {v : Row} (hr : right m) (hl : v.length = (m.getD 0 []).length) (h : linD m ≠ 0) {x : Nat → Int} (hx : ∀ c, c < (m.getD 0 []).length → comb m.length x (rvm m) c = rv v c) :
    lins m v = ((List.range m.length).map x, 0) := by
  have hd := h
  rw [linD_dm] at hd
  have h1 := inside_all hd hx
  unfold lins
  rw [if_neg (fun g => g ⟨hr, hl⟩), if_neg h, if_pos ((lok_iff h).2 ⟨x, hx⟩)]
  congr 1
  refine List.map_congr_left fun k hk => ?_
  rw [lnum_cr, h1 k (List.mem_range.1 hk), ← linD_dm, Int.mul_ediv_cancel_left _ h]
theorem lins_not {m : List Row} {v : Row} (hr : right m) (hl : v.length = (m.getD 0 []).length) (hx : linD m ≠ 0 → ¬ ∃ x : Nat → Int, ∀ c, c < (m.getD 0 []).length → comb m.length x (rvm m) c = rv v c) :
    lins m v = ([], 8) := by
  unfold lins
  rw [if_neg (fun g => g ⟨hr, hl⟩)]
  by_cases h : linD m = 0
  · rw [if_pos h]
  · rw [if_neg h, if_neg (fun g => hx h ((lok_iff h).1 g))]
section
variable {a : List Row} {k : Nat}
theorem Rdd.rvm (_ : Rdd a k) : Go.Proofs.YtabdfhdddmbmlaaGreat.rvm ((M1 a).map (·.map cn)) = mx (M1 a) := rvm_cn _
theorem Rdd.uz (h : Rdd a k) (hf : Fits k a) (ln : a.length ≤ 1024) (lc : (a.getD 0 []).length ≤ 1048576) (hI : Ind (a.getD 0 []).length a.length (Go.Proofs.YtabdfhdddmbmlaaGreat.rvm a)) :
    Fits (lK k a.length + k + 1 + ((k + k + 2) * a.length + 1) + 1) ((M2 a).map (·.map cn)) :=
  (matL_szM fun i j hi hj => h.lb.uz (by omega) (by omega) (fun i c _ _ => rv_sz (hf.get i) c) (vol_of_ind hI) hi hj).fits
theorem Rdd.det (h : Rdd a k) : det a.length (mx (M2 a)) = 1 ∨ det a.length (mx (M2 a)) = -1 := by
  rw [det_congr fun i j hi hj => M2_at a hi hj]; exact h.lb.un
end
open Go.RowKit
def lsum (m : List Row) (c : Row) : List Int := (List.range (m.getD 0 []).length).map fun t => comb m.length (rv c) (rvm m) t
theorem comb_sz {m : List Row} {c : Row} {k i : Nat} (hf : Fits k m) (hc : Fit k c) (hi : i < 18446744073709551616) (t : Nat) : sz (comb i (rv c) (rvm m) t) (k + k + 1) :=
  isum_sz (fun s _ => (rv_sz hc s).mul (rv_sz (hf.get s) t)) hi
theorem rSum_meets (v w : Value) (m : List Row) (c : Row) (k : Nat) (hf : Fits k m) (hc : Fit k c) (hr : right m) (hl : m.length ≤ c.length) (hk : k ≤ 1048576) (lm : m.length ≤ 1048576) (lc : (m.getD 0 []).length ≤ 1048576) :
    Meets Tryz.prog 59 [v, w] [(v, W m), (w, V c)] (fun r os fs => os = [] ∧ fs = [(r, vd (lsum m c))]) := by
  have hlen : ∀ i, i < m.length → (m.getD i []).length = (m.getD 0 []).length := fun i hi => (hr.get hi).2
  refine meets_of_vc Tryz.func59 (by kernel_rfl) rfl (by kernel_rfl) (Nat.le_of_ble_eq_true rfl) ?_
  refine empty_L J z0 (by decide) fun o ho => ?_
  refine loop_rule (X := Nat × Value) (fun x => ([(0, v), (1, w), (5, x.2), (6, .int .i64 (x.1 : Nat))], [ownL 2 J z0 x.2 ((List.range x.1).map fun t => cn (comb m.length (rv c) (rvm m) t))], [(v, W m), (w, V c)]))
    (fun x => x.1 ≤ (m.getD 0 []).length ∧ isSl x.2) (fun x => (m.getD 0 []).length - x.1) rfl ?_ ?_
  · exact again (0, o) ⟨Nat.zero_le _, ho⟩ trivial qF (Seals.sub qS)
  · rintro ⟨t, o⟩ ⟨ht, ho⟩
    simp only at ht ho ⊢
    refine index_fact (v := v) qM 0 rfl hr.1 fun a1 => ?_
    refine load_fact (d := V (m.getD 0 [])) qM (load_V _) fun a2 => ?_
    refine len_fact (v := a2) qM fun _ => ?_
    refine cmp_split _ rfl (fun hlt => ?_) (fun hlt => ?_)
    · have htC : t < (m.getD 0 []).length := by omega
      refine build0 (da := .one (.bool false)) (db := U (lims 0)) (fun S w => ⟨[.bool false], [.slice none 0 0], rfl, rd_false S w, by rw [lims_zero]; exact rd_nil S w 1 _⟩) fun zz => ?_
      refine alloc_rule (d := I false []) fun s hs => ?_
      refine store_box (d := zd 0) 0 rfl hs rfl (by kernel_rfl) ?_ ?_; exact Reads.fact (d := zd 0) qM
      refine loop_rule (X := Nat) (fun i => ([(0, v), (1, w), (5, o), (6, .int .i64 (t : Nat)), (7, s), (8, .int .i64 (i : Nat))], [own1 s 2 1 (fun _ => zd (comb i (rv c) (rvm m) t)), ownL 2 J z0 o ((List.range t).map fun t => cn (comb m.length (rv c) (rvm m) t))], [(v, W m), (w, V c)]))
        (fun i => i ≤ m.length) (fun i => m.length - i) rfl ?_ ?_
      · exact again 0 (Nat.zero_le _) trivial qF (Seals.trans (Seals.box0 rfl) (Seals.sub (fs' := [(v, W m), (w, V c)]) qS))
      · rintro i hi
        refine len_fact (v := v) qM fun _ => ?_
        refine cmp_split _ rfl (fun hlt2 => ?_) (fun hlt2 => ?_)
        · have hin : i < m.length := by omega
          have f1 := hc.get i
          have f2 := (hf.get i).get t
          have g1 : sz (comb i (rv c) (rvm m) t) (k + k + 1) := comb_sz hf hc (by omega) t
          have g2 : sz (jv (c.getD i z0) * jv ((m.getD i []).getD t z0)) (k + k + 1) := ((sz_jv f1.1 f1.2).mul (sz_jv f2.1 f2.2)).mono (by omega)
          refine draw_rule [0, 1, 2, 3, 4, 5, 6, 7, 8, 9, 10, 11, 12, 13, 14] [0, 1, 2, 3, 4, 5, 6, 7, 8, 9, 10, 11, 12, 13, 14] (by kernel_rfl) (by kernel_rfl) ?_
          refine load_box (d := zd (comb i (rv c) (rvm m) t)) 0 rfl hs rfl (load_I _ _) fun y1 => ?_
          refine index_fact (v := w) qM i rfl (by omega) fun b1 => ?_
          refine load_fact (d := J (c.getD i z0)) qM (load_J _) fun y2 => ?_
          refine index_fact (v := v) qM i rfl hin fun b2 => ?_
          refine load_fact (d := V (m.getD i [])) qM (load_V _) fun b3 => ?_
          refine index_fact (v := b3) qM t rfl (by rw [hlen i hin]; omega) fun b4 => ?_
          refine load_fact (d := J ((m.getD i []).getD t z0)) qM (load_J _) fun y3 => ?_
          refine call_fn (rMulJ y2 y3 (c.getD i z0) ((m.getD i []).getD t z0) f1.1 (by omega) f2.1 (by omega)) (Seals.refl _ _) qS ?_
          rintro y4 _ _ ⟨rfl, rfl⟩
          refine call_fn (rAddZ y1 y4 _ _ (k + k + 1) g1 g2 (by omega)) (Seals.refl _ _) qS ?_
          rintro y5 _ _ ⟨rfl, rfl⟩
          refine store_box (d := zd (comb (i + 1) (rv c) (rvm m) t)) 0 rfl hs rfl (by kernel_rfl) ?_ ?_; exact Reads.fact qM
          refine ar rfl qI ?_
          exact again (i + 1) (by omega) (by simp only; omega) qF (Seals.trans (Seals.box0 rfl) (Seals.sub (fs' := [(v, W m), (w, V c)]) qS))
        · have hin : i = m.length := by omega
          have g1 : sz (comb m.length (rv c) (rvm m) t) (k + k + 1) := comb_sz hf hc (by omega) t
          rw [hin]
          refine load_box (d := zd (comb m.length (rv c) (rvm m) t)) 0 rfl hs rfl (load_I _ _) fun y1 => ?_
          refine call_fn (rNormZ y1 _ (k + k + 1) g1 (by omega)) (Seals.refl _ _) qS ?_
          rintro y2 _ _ ⟨rfl, rfl⟩
          refine lit_L (size := 2) J z0 (cn (comb m.length (rv c) (rvm m) t)) (by decide) (Reads.fact (d := zd (comb m.length (rv c) (rvm m) t)) qM) rfl fun l1 => ?_
          refine append_L 1 rfl ho (Knw.fact qM) (by simp; omega) (by simp; omega) fun o2 ho2 => ?_
          refine ar rfl qI ?_
          refine again (t + 1, o2) ⟨by simp only; omega, ho2⟩ (by simp only; omega) qF ?_
          simp only [range_snoc_map]
          exact Seals.trans (Seals.drop 0 _ _) (Seals.sub (fs' := [(v, W m), (w, V c)]) qS)
    · have htC : t = (m.getD 0 []).length := by omega
      subst htC
      refine fin ⟨rfl, rfl⟩ (Seals.trans (Seals.L 0 rfl ho) (Seals.cons ((Knw.fact qM).cast ?_) (Seals.nil _ _)))
      unfold vd lsum V
      rw [List.map_map]; rfl
open Go.RowKit
theorem gmTurn (m : List Row) : turn (ww m) = matL (m.getD 0 []).length m.length (fun j i => rvm m i j) := by
  unfold turn matL
  rw [ww_get, vv_len, ww_len, rvm_ww]; rfl
theorem gmProd {m : List Row} (hr : right m) : prod (ww m) (matL (m.getD 0 []).length m.length (fun j i => rvm m i j)) = gml m := by
  rw [prod_matL, ww_len, matL_len0 _ (hr.get hr.1).1, matL_len]
  refine matL_congr fun i j hi hj => ?_
  refine isum_congr fun l hl => ?_
  show mx (ww m) i l * _ = rvm m i l * rvm m j l
  rw [rvm_ww, mx_matL _ hl hj]
theorem rGram_meets (v : Value) (m : List Row) (k : Nat) (hf : Fits k m) (hk : k ≤ 1048576) (lm : m.length ≤ 1048576) (lc : (m.getD 0 []).length ≤ 1048576) :
    Meets Tryz.prog 17 [v] [(v, W m)] (fun r os fs => os = [] ∧ ∃ q, r = .tuple #[q, .int .i64 (if right m then 0 else 1)] ∧ fs = [(q, wd (if right m then gml m else []))]) := by
  refine meets_of_vc Tryz.func17 (by kernel_rfl) rfl (by kernel_rfl) (Nat.le_of_ble_eq_true rfl) ?_
  refine call_fn (rTurn_meets v m k hf (by omega) (by omega) (by omega)) (Seals.refl _ _) qS ?_
  rintro _ _ _ ⟨rfl, t, rfl, rfl⟩
  by_cases hr : right m
  case neg =>
    rw [if_neg hr, if_neg hr, if_neg hr]
    refine cmp_true rfl (by decide) ?_
    exact fin ⟨rfl, .slice none 0 0, rfl, rfl⟩ (Seals.cons (Knw.nil 1 _) (Seals.nil _ _))
  rw [if_pos hr, if_pos hr, if_pos hr, gmTurn]
  refine cmp_false rfl (by decide) ?_
  have hC := (hr.get hr.1).1
  have hl : ((matL (m.getD 0 []).length m.length (fun j i => rvm m i j)).map (·.map cn)).length = (m.getD 0 []).length := by rw [List.length_map]; exact matL_len _ _ _
  have hcl : (((matL (m.getD 0 []).length m.length (fun j i => rvm m i j)).map (·.map cn)).getD 0 []).length = m.length := by rw [get_cn, List.length_map, matL_len0 _ hC]
  have h := rMMul_meets v t m ((matL (m.getD 0 []).length m.length (fun j i => rvm m i j)).map (·.map cn)) k hf (matL_fits fun i j _ _ => rv_sz (hf.get j) i) (by omega) (by omega) (by omega) (by omega)
  have hp : fitsProd m ((matL (m.getD 0 []).length m.length (fun j i => rvm m i j)).map (·.map cn)) := ⟨hr, (right_cn _).2 (matL_right _ hC hr.1), hl⟩
  rw [if_pos hp, if_pos hp, ww_cn, gmProd hr] at h
  refine call_fn h (Seals.refl _ _) qS ?_
  rintro _ _ _ ⟨rfl, q, rfl, rfl⟩
  exact fin ⟨rfl, q, rfl, rfl⟩ (Seals.sub qS)
theorem rVolume_meets (v : Value) (m : List Row) (k : Nat) (hf : Fits k m) (hk : k ≤ 1048576) (lm : m.length ≤ 1024) (lc : (m.getD 0 []).length ≤ 1048576) (he : (k + k + 1 + 1) * m.length ≤ 4294967296) :
    Meets Tryz.prog 19 [v] [(v, W m)] (fun r os fs => os = [] ∧ ∃ q, r = .tuple #[q, .int .i64 (if right m then 0 else 1)] ∧ fs = [(q, zd (lvol m))]) := by
  have hl : ((gml m).map (·.map cn)).length = m.length := by rw [List.length_map]; exact matL_len _ _ _
  have hdet : right m → ∀ x, Meets Tryz.prog 50 [x] [(x, wd (gml m))] (fun r os fs => os = [] ∧ ∃ q, r = .tuple #[q, .int .i64 0] ∧ fs = [(q, zd (lvol m))]) := fun hr x => by
    have h := rDet_meets x ((gml m).map (·.map cn)) (k + k + 1) (matL_fits fun i j _ _ => gmx_sz hf lc i j) (by omega) (by rw [hl]; exact he)
    have hs : square ((gml m).map (·.map cn)) := matL_square _ hr.1
    have hs' := rdet_square ((square_ww _).2 hs)
    rw [ww_len] at hs'
    have e2 : det m.length (mx (ww ((gml m).map (·.map cn)))) = det m.length (gmx m) := det_congr fun i j hi hj => matL_mx (gmx m) hi hj
    rw [if_pos hs, if_pos hs, hs', hl, e2] at h
    have e : lvol m = det m.length (gmx m) := if_pos hr
    rw [e]
    exact h
  refine meets_of_vc Tryz.func19 (by kernel_rfl) rfl (by kernel_rfl) (Nat.le_of_ble_eq_true rfl) ?_
  refine alloc_rule (d := I false []) fun o ho => ?_
  refine call_fn (rGram_meets v m k hf hk (by omega) lc) (Seals.refl _ _) qS ?_
  rintro _ _ _ ⟨rfl, g, rfl, rfl⟩
  by_cases hr : right m
  · rw [if_pos hr, if_pos hr]
    refine cmp_false rfl (by omega) ?_
    refine call_fn (hdet hr g) (Seals.refl _ _) qS ?_
    rintro _ _ _ ⟨rfl, q, rfl, rfl⟩
    refine store_box (d := zd (lvol m)) 0 rfl ho rfl (by kernel_rfl) ?_ ?_; exact Reads.fact qM
    refine load_box (d := zd (lvol m)) 0 rfl ho rfl (load_I _ _) fun r => ?_
    exact fin ⟨rfl, r, rfl, rfl⟩ (Seals.trans (Seals.drop 0 _ _) (Seals.sub qS))
  · have e : lvol m = 0 := if_neg hr
    rw [if_neg hr, if_neg hr, e]
    refine cmp_true rfl (by omega) ?_
    refine build0 (da := .one (.bool false)) (db := U (lims 0)) (fun S w => ⟨[.bool false], [.slice none 0 0], rfl, rd_false S w, by rw [lims_zero]; exact rd_nil S w 1 _⟩) fun z => ?_
    refine store_box (d := zd 0) 0 rfl ho rfl (by kernel_rfl) ?_ ?_; exact Reads.fact qM
    refine load_box (d := zd 0) 0 rfl ho rfl (load_I _ _) fun r => ?_
    exact fin ⟨rfl, r, rfl, rfl⟩ (Seals.trans (Seals.drop 0 _ _) (Seals.sub qS))
theorem rlsolve_meets (x y : Value) (m : List Row) (v : Row) (k : Nat) (hf : Fits k m) (hv : Fit k v) (hr : right m) (hk : k ≤ 1048576) (lm : m.length ≤ 1024) (lc : (m.getD 0 []).length ≤ 1048576) (he : (k + k + 1 + 1) * m.length ≤ 4294967296) :
    Meets Tryz.prog 57 [x, y] [(x, wd (gml m)), (y, vd ((List.range m.length).map (lbv m v)))] (fun r os fs => os = [] ∧ ∃ q d, r = .tuple #[q, d, .int .i64 (if linD m = 0 then 8 else 0)] ∧ fs = [(q, vd (if linD m = 0 then [] else (List.range m.length).map (lnum m v))), (d, zd (if linD m = 0 then 0 else linD m))]) := by
  have hl : ((gml m).map (·.map cn)).length = m.length := by rw [List.length_map]; exact matL_len _ _ _
  have hl2 : (((List.range m.length).map (lbv m v)).map cn).length = m.length := by simp
  have hs : square ((gml m).map (·.map cn)) := matL_square _ hr.1
  have hb : Fit (k + k + 1) (((List.range m.length).map (lbv m v)).map cn) := Fit_cn fun y hy => by
    obtain ⟨i, _, rfl⟩ := List.mem_map.1 hy
    exact ip_sz (fun c _ => rv_sz (hf.get i) c) (fun c _ => rv_sz hv c) (by omega)
  have h := rSolve_meets x y ((gml m).map (·.map cn)) (((List.range m.length).map (lbv m v)).map cn) (k + k + 1) (matL_fits fun i j _ _ => gmx_sz hf lc i j) hb (by omega) (by rw [hl]; exact he)
  have e2 : det m.length (mx (ww ((gml m).map (·.map cn)))) = linD m := det_congr fun i j hi hj => matL_mx (gmx m) hi hj
  have e3 : ∀ c, det m.length (cw (mx (ww ((gml m).map (·.map cn)))) c fun i => (vv (((List.range m.length).map (lbv m v)).map cn)).getD i 0) = lnum m v c := fun c => det_congr fun i j hi hj => by
    unfold cw
    rw [vv_cn]
    by_cases e : j = c
    · rw [if_pos e, if_pos e]; simp [List.getD_eq_getElem?_getD, hi]
    · rw [if_neg e, if_neg e]; exact matL_mx (gmx m) hi hj
  have e0 : msolve ((gml m).map (·.map cn)) (((List.range m.length).map (lbv m v)).map cn) = if linD m = 0 then ([], 0, 8) else ((List.range m.length).map (lnum m v), linD m, 0) := by
    unfold msolve
    rw [if_neg (fun hh => hh ⟨hs, by rw [hl, hl2]⟩), hl, e2]
    by_cases h0 : linD m = 0
    · rw [if_pos h0, if_pos h0]
    · rw [if_neg h0, if_neg h0]
      congr 2
      exact funext e3
  rw [rsolve_msolve, e0] at h
  by_cases h0 : linD m = 0
  · rw [if_pos h0] at h; rw [if_pos h0, if_pos h0, if_pos h0]; exact h
  · rw [if_neg h0] at h; rw [if_neg h0, if_neg h0, if_neg h0]; exact h
open Go.RowKit
theorem rCmpJ (v w : Value) (x y : Bool × List Nat) (a : Nat) (hx : Lim x.2) (lx : x.2.length ≤ a) (hy : Lim y.2) (ly : y.2.length ≤ a) (ha : a ≤ 137438953471) :
    Meets Tryz.prog 60 [v, w] [(v, J x), (w, J y)] (fun r os fs => os = [] ∧ fs = [] ∧ r = .int .i64 (jv x - jv y).sign) := by
  have h : ∀ y1 y2, Meets Tryz.prog 70 [y1, y2] [(y1, J x), (y2, J y)] (fun r os fs => os = [] ∧ fs = [(r, zd (jv x - jv y))]) := fun y1 y2 => rZSub_meets y1 y2 x.1 y.1 x.2 y.2 hx hy (by omega) (by omega)
  have hd : sz (jv x - jv y) (a + 1) := sz_sub (sz_jv hx lx) (sz_jv hy ly)
  have hs := fun z => rSign_meets z (decide (jv x - jv y < 0)) (lims (jv x - jv y).natAbs) (Lim_lims _) (Nat.le_trans hd.len (by omega))
  simp only [iv_zd] at hs
  refine meets_of_vc Tryz.func60 (by kernel_rfl) rfl (by kernel_rfl) (Nat.le_of_ble_eq_true rfl) ?_
  refine box_rule (Reads.fact (d := J x) qM) fun p hp => ?_
  refine box_rule (Reads.fact (d := J y) qM) fun q hq => ?_
  refine load_box (d := J x) 1 rfl hp rfl (load_J _) fun y1 => ?_
  refine load_box (d := J y) 0 rfl hq rfl (load_J _) fun y2 => ?_
  refine call_fn (h y1 y2) (Seals.refl _ _) qS ?_
  rintro z _ _ ⟨rfl, rfl⟩
  refine call_fn (hs z) (Seals.refl _ _) qS ?_
  rintro _ _ _ ⟨rfl, rfl, rfl⟩
  exact fin ⟨rfl, rfl, rfl⟩ (Seals.trans (Seals.drop 0 _ _) (Seals.trans (Seals.drop 0 _ _) (Seals.nil _ _)))
theorem told_row (n : Nat) (f : Nat → Int) : ∃ l : Row, vd ((List.range n).map f) = V l ∧ l.length = n ∧ (∀ i, i < n → l.getD i z0 = cn (f i)) ∧ l = (List.range n).map (fun i => cn (f i)) :=
  ⟨((List.range n).map f).map cn, rfl, by simp, fun i hi => range_cn _ hi, by rw [List.map_map]; rfl⟩
theorem vd_LD (n : Nat) (f : Nat → Int) : LD 2 J z0 ((List.range n).map fun i => cn (f i)) = vd ((List.range n).map f) := by
  unfold vd V; rw [List.map_map]; rfl
theorem lins_yes {m : List Row} {b : Row} (hr : right m) (hl : b.length = (m.getD 0 []).length) (h : linD m ≠ 0) (hx : ∀ c, c < (m.getD 0 []).length → comb m.length (fun i => lnum m b i / linD m) (rvm m) c = rv b c) :
    lins m b = ((List.range m.length).map fun i => lnum m b i / linD m, 0) := lins_sum hr hl h hx
theorem lins_no {m : List Row} {b : Row} (hr : right m) (hl : b.length = (m.getD 0 []).length) (h : linD m ≠ 0) {c : Nat} (hc : c < (m.getD 0 []).length) (hx : comb m.length (fun i => lnum m b i / linD m) (rvm m) c ≠ rv b c) :
    lins m b = ([], 8) := by
  refine lins_not hr hl fun _ ⟨x, hy⟩ => ?_
  have h1 := lins_sum hr hl h hy
  have h2 : lins m b = if lok m b then ((List.range m.length).map fun i => lnum m b i / linD m, 0) else ([], 8) := by
    unfold lins
    rw [if_neg (fun g => g ⟨hr, hl⟩), if_neg h]
  rw [h1] at h2
  by_cases hk : lok m b
  · rw [if_pos hk] at h2
    have h3 := (Prod.mk.inj h2).1
    refine hx ?_
    rw [← hy c hc]
    refine isum_congr fun i hi => ?_
    have h4 : ((List.range m.length).map x).getD i 0 = ((List.range m.length).map fun i => lnum m b i / linD m).getD i 0 := by rw [h3]
    simp [List.getD_eq_getElem?_getD, hi] at h4
    show lnum m b i / linD m * _ = x i * _
    rw [h4]
  · rw [if_neg hk] at h2
    have := (Prod.mk.inj h2).2
    omega
theorem rInside_meets (v w : Value) (m : List Row) (b : Row) (k : Nat) (hf : Fits k m) (hb : Fit k b) (hk : k ≤ 1024) (lm : m.length ≤ 1024) (lc : (m.getD 0 []).length ≤ 1048576) (he : (k + k + 1 + 1) * m.length + 1 + k ≤ 1048576) :
    Meets Tryz.prog 21 [v, w] [(v, W m), (w, V b)] (fun r os fs => os = [] ∧ ∃ q, r = .tuple #[q, .int .i64 (lins m b).2] ∧ fs = [(q, vd (lins m b).1)]) := by
  refine meets_of_vc Tryz.func21 (by kernel_rfl) rfl (by kernel_rfl) (Nat.le_of_ble_eq_true rfl) ?_
  refine call_fn (rGram_meets v m k hf (by omega) (by omega) lc) (Seals.refl _ _) qS ?_
  rintro _ _ _ ⟨rfl, g, rfl, rfl⟩
  by_cases hr : right m
  case neg =>
    have e : lins m b = ([], 1) := if_pos (fun h => hr h.1)
    rw [if_neg hr, if_neg hr, e]
    refine cmp_true rfl (by omega) ?_
    exact fin ⟨rfl, .slice none 0 0, rfl, rfl⟩ (Seals.cons (Knw.nil 2 _) (Seals.nil _ _))
  rw [if_pos hr, if_pos hr]
  refine cmp_false rfl (by omega) ?_
  refine len_fact (v := w) qM fun _ => ?_
  refine index_fact (v := v) qM 0 rfl hr.1 fun a1 => ?_
  refine load_fact (d := V (m.getD 0 [])) qM (load_V _) fun a2 => ?_
  refine len_fact (v := a2) qM fun _ => ?_
  refine cmp_split _ rfl (fun hl => ?_) (fun hl => ?_)
  · have e : lins m b = ([], 1) := if_pos (fun h => hl (by rw [h.2]))
    rw [e]
    exact fin ⟨rfl, .slice none 0 0, rfl, rfl⟩ (Seals.cons (Knw.nil 2 _) (Seals.nil _ _))
  have hbl : b.length = (m.getD 0 []).length := by omega
  have hlen : ∀ i, i < m.length → (m.getD i []).length = (m.getD 0 []).length := fun i hi => (hr.get hi).2
  have e0 : linD m = 0 → lins m b = ([], 8) := fun h0 => by
    unfold lins
    rw [if_neg (fun h => h ⟨hr, hbl⟩), if_pos h0]
  have hsl := fun x y => rlsolve_meets x y m b k hf hb hr (by omega) lm lc (by omega)
  have hls : ∀ i, sz (lbv m b i) (k + k + 1) := fun i => ip_sz (fun c _ => rv_sz (hf.get i) c) (fun c _ => rv_sz hb c) (by omega)
  have hdz : ∀ x : Mx, (∀ i j, i < m.length → j < m.length → sz (x i j) (k + k + 1)) → sz (det m.length x) 1048576 := fun x hx => (det_sz m.length (by omega) hx).mono (by omega)
  have hnd : sz (linD m) 1048576 := hdz _ fun i j _ _ => gmx_sz hf lc i j
  have hng : ∀ c, sz (lnum m b c) 1048576 := fun c => hdz _ fun i j _ _ => by
    unfold cw; split
    · exact hls i
    · exact gmx_sz hf lc i j
  have hdot : ∀ x i, i < m.length → Meets Tryz.prog 23 [x, w] [(x, V (m.getD i [])), (w, V b)] (fun r os fs => os = [] ∧ ∃ q, r = .tuple #[q, .int .i64 0] ∧ fs = [(q, zd (lbv m b i))]) := fun x i hi => by
    have h := rDot_meets x w (m.getD i []) b k (hf.get i) hb (by omega) (by rw [hlen i hi]; omega)
    have e1 : (m.getD i []).length = b.length := by rw [hlen i hi, hbl]
    have e2 : ldt (m.getD i []) b = lbv m b i := by
      unfold ldt lbv
      rw [if_pos e1, hlen i hi]
    rw [if_pos e1, e2] at h
    exact h
  obtain ⟨L, hL, hLl, hLg, _⟩ := told_row m.length (lnum m b)
  obtain ⟨Q, hQ, hQl, hQg, hQe⟩ := told_row m.length (fun i => lnum m b i / linD m)
  have hQv : ∀ i, i < m.length → rv Q i = lnum m b i / linD m := fun i hi => by
    show jv (Q.getD i z0) = _
    rw [hQg i hi, jv_cn]
  have hQf : Fit 1048576 Q := by
    rw [hQe]
    intro p hp
    obtain ⟨i, _, rfl⟩ := List.mem_map.1 hp
    exact ⟨Lim_lims _, (sz_div (hng i)).len⟩
  refine empty_L J z0 (by decide) fun o ho => ?_
  refine loop_rule (X := Nat × Value) (fun x => ([(0, v), (1, w), (6, g), (8, x.2), (9, .int .i64 (x.1 : Nat))], [ownL 2 J z0 x.2 ((List.range x.1).map fun i => cn (lbv m b i))], [(g, wd (gml m)), (v, W m), (w, V b)]))
    (fun x => x.1 ≤ m.length ∧ isSl x.2) (fun x => m.length - x.1) rfl ?_ ?_
  · exact again (0, o) ⟨Nat.zero_le _, ho⟩ trivial qF (Seals.sub qS)
  rintro ⟨i, o⟩ ⟨hi, ho⟩
  simp only at hi ho ⊢
  refine len_fact (v := v) (n := m.length) qM fun _ => ?_
  refine cmp_split _ rfl (fun hc => ?_) (fun hc => ?_)
  · have hin : i < m.length := by omega
    refine index_fact (v := v) (n := m.length) qM i rfl hin fun a3 => ?_
    refine load_fact (d := V (m.getD i [])) qM (load_V _) fun bi => ?_
    refine call_fn (hdot bi i hin) (Seals.refl _ _) qS ?_
    rintro _ _ _ ⟨rfl, x, rfl, rfl⟩
    refine alloc_rule (d := I false []) fun xb hxb => ?_
    refine store_box (d := zd (lbv m b i)) 0 rfl hxb rfl (by kernel_rfl) (Reads.fact (v := x) qM) ?_
    refine load_box (d := zd (lbv m b i)) 0 rfl hxb rfl (load_I _ _) fun y1 => ?_
    refine lit_L (size := 2) J z0 (cn (lbv m b i)) (by decide) (Reads.fact (v := y1) (d := zd (lbv m b i)) qM) rfl fun l1 => ?_
    refine append_L 1 rfl ho (Knw.fact (v := l1) qM) (by simp; omega) (by simp; omega) fun o2 ho2 => ?_
    refine ar rfl qI ?_
    refine again (i + 1, o2) ⟨by simp only; omega, ho2⟩ (by simp only; omega) qF ?_
    simp only [range_snoc_map]
    exact Seals.trans (Seals.drop 0 _ _) (Seals.sub (fs' := [(g, wd (gml m)), (v, W m), (w, V b)]) qS)
  have hin : i = m.length := by omega
  subst hin
  refine call_fn (hsl g o) (Seals.trans (Seals.L 0 rfl ho) (Seals.cons ((Knw.fact (List.Mem.head _)).cast (vd_LD m.length (lbv m b))) (Seals.refl _ _))) qS ?_
  rintro _ _ _ ⟨rfl, q, d, rfl, rfl⟩
  by_cases h0 : linD m = 0
  · rw [if_pos h0, if_pos h0, if_pos h0, e0 h0]
    refine alloc_rule (d := I false []) fun db hdb => ?_
    refine store_box (d := zd 0) 0 rfl hdb rfl (by kernel_rfl) (Reads.fact (v := d) qM) ?_
    refine cmp_true rfl (by omega) ?_
    exact fin ⟨rfl, .slice none 0 0, rfl, rfl⟩ (Seals.trans (Seals.drop 0 _ _) (Seals.cons (Knw.nil 2 _) (Seals.nil _ _)))
  rw [if_neg h0, if_neg h0, if_neg h0, hL]
  refine alloc_rule (d := I false []) fun db hdb => ?_
  refine store_box (d := zd (linD m)) 0 rfl hdb rfl (by kernel_rfl) (Reads.fact (v := d) qM) ?_
  refine cmp_false rfl (by omega) ?_
  refine empty_L J z0 (by decide) fun c0 hc0 => ?_
  refine loop_rule (X := Nat × Value) (fun x => ([(0, v), (1, w), (12, q), (13, db), (14, x.2), (15, .int .i64 (x.1 : Nat))], [ownL 2 J z0 x.2 ((List.range x.1).map fun i => cn (lnum m b i / linD m)), own1 db 2 1 (fun _ => zd (linD m))], [(q, V L), (v, W m), (w, V b)]))
    (fun x => x.1 ≤ m.length ∧ isSl x.2) (fun x => m.length - x.1) rfl ?_ ?_
  · exact again (0, c0) ⟨Nat.zero_le _, hc0⟩ trivial qF (Seals.trans (Seals.box1 rfl) (Seals.sub qS))
  rintro ⟨i, c⟩ ⟨hi, hcs⟩
  simp only at hi hcs ⊢
  refine len_fact (v := q) (n := L.length) qM fun _ => ?_
  refine cmp_split _ rfl (fun hc2 => ?_) (fun hc2 => ?_)
  · have hin : i < m.length := by omega
    have hdm : ∀ y1 y2, Meets Tryz.prog 58 [y1, y2] [(y1, J (L.getD i z0)), (y2, zd (linD m))] (fun r os fs => os = [] ∧ ∃ q m', r = .tuple #[q, m', .bool true] ∧ fs = [(q, zd (lnum m b i / linD m)), (m', zd (lnum m b i % linD m))]) := fun y1 y2 => by
      rw [hLg i hin]; exact rDivModZ y1 y2 (lnum m b i) (linD m) 1048576 (hng i) hnd (by decide) h0
    refine draw_join (X := Value × Value) (fun z => ([(0, v), (1, w), (12, q), (13, db), (14, c), (15, .int .i64 (i : Nat)), (16, z.1), (17, z.2)], [ownL 2 J z0 c ((List.range i).map fun i => cn (lnum m b i / linD m)), own1 db 2 1 (fun _ => zd (linD m))], [(q, V L), (v, W m), (w, V b), (z.1, .ptr (zd (lnum m b i / linD m)))])) (fun _ => True) ?_ ?_
    ·
      refine draw_ord [0, 1, 2, 3, 4, 5, 6, 7, 10, 11, 12, 8, 13, 9, 14] (by kernel_rfl) ?_
      refine ord_split 5 10 (by kernel_rfl) (by kernel_rfl) (by kernel_rfl) ?_ ?_
      · refine ord_split 5 11 (by kernel_rfl) (by kernel_rfl) (by kernel_rfl) ?_ ?_
        · refine ord_split 10 11 (by kernel_rfl) (by kernel_rfl) (by kernel_rfl) ?_ ?_
          · refine ord_go [0, 1, 2, 3, 4, 5, 6, 7, 8, 9, 10, 11, 12, 13, 14] (by kernel_rfl) (by kernel_rfl) ?_
            refine index_fact (v := q) qM i rfl (by omega) fun a3 => ?_
            refine load_fact (d := J (L.getD i z0)) qM (load_J _) fun y1 => ?_
            refine load_box (d := zd (linD m)) 1 rfl hdb rfl (load_I _ _) fun y2 => ?_
            refine call_fn (hdm y1 y2) (Seals.refl _ _) qS ?_
            rintro _ _ _ ⟨rfl, u1, u2, rfl, rfl⟩
            refine alloc_rule (d := I false []) fun b1 h1 => ?_
            refine alloc_rule (d := I false []) fun b2 h2 => ?_
            refine store_box (d := zd (lnum m b i / linD m)) 1 rfl h1 rfl (by kernel_rfl) (Reads.fact (v := u1) qM) ?_
            refine store_box (d := zd (lnum m b i % linD m)) 0 rfl h2 rfl (by kernel_rfl) (Reads.fact (v := u2) qM) ?_
            exact again (b1, b2) trivial trivial qF (Seals.trans (Seals.drop 0 _ _) (Seals.trans (Seals.box (d := zd (lnum m b i / linD m)) 0 rfl h1 rfl) (Seals.sub qS)))
          · refine ord_go [0, 1, 2, 3, 4, 5, 6, 7, 8, 9, 11, 10, 12, 13, 14] (by kernel_rfl) (by kernel_rfl) ?_
            refine index_fact (v := q) qM i rfl (by omega) fun a3 => ?_
            refine load_fact (d := J (L.getD i z0)) qM (load_J _) fun y1 => ?_
            refine load_box (d := zd (linD m)) 1 rfl hdb rfl (load_I _ _) fun y2 => ?_
            refine call_fn (hdm y1 y2) (Seals.refl _ _) qS ?_
            rintro _ _ _ ⟨rfl, u1, u2, rfl, rfl⟩
            refine alloc_rule (d := I false []) fun b2 h2 => ?_
            refine alloc_rule (d := I false []) fun b1 h1 => ?_
            refine store_box (d := zd (lnum m b i / linD m)) 0 rfl h1 rfl (by kernel_rfl) (Reads.fact (v := u1) qM) ?_
            refine store_box (d := zd (lnum m b i % linD m)) 1 rfl h2 rfl (by kernel_rfl) (Reads.fact (v := u2) qM) ?_
            exact again (b1, b2) trivial trivial qF (Seals.trans (Seals.box (d := zd (lnum m b i / linD m)) 0 rfl h1 rfl) (Seals.trans (Seals.drop 0 _ _) (Seals.sub qS)))
        · refine ord_go [0, 1, 2, 3, 4, 11, 5, 6, 7, 8, 9, 10, 12, 13, 14] (by kernel_rfl) (by kernel_rfl) ?_
          refine index_fact (v := q) qM i rfl (by omega) fun a3 => ?_
          refine load_fact (d := J (L.getD i z0)) qM (load_J _) fun y1 => ?_
          refine load_box (d := zd (linD m)) 1 rfl hdb rfl (load_I _ _) fun y2 => ?_
          refine alloc_rule (d := I false []) fun b2 h2 => ?_
          refine call_fn (hdm y1 y2) (Seals.refl _ _) qS ?_
          rintro _ _ _ ⟨rfl, u1, u2, rfl, rfl⟩
          refine alloc_rule (d := I false []) fun b1 h1 => ?_
          refine store_box (d := zd (lnum m b i / linD m)) 0 rfl h1 rfl (by kernel_rfl) (Reads.fact (v := u1) qM) ?_
          refine store_box (d := zd (lnum m b i % linD m)) 1 rfl h2 rfl (by kernel_rfl) (Reads.fact (v := u2) qM) ?_
          exact again (b1, b2) trivial trivial qF (Seals.trans (Seals.box (d := zd (lnum m b i / linD m)) 0 rfl h1 rfl) (Seals.trans (Seals.drop 0 _ _) (Seals.sub qS)))
      · refine ord_split 5 11 (by kernel_rfl) (by kernel_rfl) (by kernel_rfl) ?_ ?_
        · refine ord_go [0, 1, 2, 3, 4, 10, 5, 6, 7, 8, 9, 11, 12, 13, 14] (by kernel_rfl) (by kernel_rfl) ?_
          refine index_fact (v := q) qM i rfl (by omega) fun a3 => ?_
          refine load_fact (d := J (L.getD i z0)) qM (load_J _) fun y1 => ?_
          refine load_box (d := zd (linD m)) 1 rfl hdb rfl (load_I _ _) fun y2 => ?_
          refine alloc_rule (d := I false []) fun b1 h1 => ?_
          refine call_fn (hdm y1 y2) (Seals.refl _ _) qS ?_
          rintro _ _ _ ⟨rfl, u1, u2, rfl, rfl⟩
          refine alloc_rule (d := I false []) fun b2 h2 => ?_
          refine store_box (d := zd (lnum m b i / linD m)) 1 rfl h1 rfl (by kernel_rfl) (Reads.fact (v := u1) qM) ?_
          refine store_box (d := zd (lnum m b i % linD m)) 0 rfl h2 rfl (by kernel_rfl) (Reads.fact (v := u2) qM) ?_
          exact again (b1, b2) trivial trivial qF (Seals.trans (Seals.drop 0 _ _) (Seals.trans (Seals.box (d := zd (lnum m b i / linD m)) 0 rfl h1 rfl) (Seals.sub qS)))
        · refine ord_split 10 11 (by kernel_rfl) (by kernel_rfl) (by kernel_rfl) ?_ ?_
          · refine ord_go [0, 1, 2, 3, 4, 10, 11, 5, 6, 7, 8, 9, 12, 13, 14] (by kernel_rfl) (by kernel_rfl) ?_
            refine index_fact (v := q) qM i rfl (by omega) fun a3 => ?_
            refine load_fact (d := J (L.getD i z0)) qM (load_J _) fun y1 => ?_
            refine load_box (d := zd (linD m)) 1 rfl hdb rfl (load_I _ _) fun y2 => ?_
            refine alloc_rule (d := I false []) fun b1 h1 => ?_
            refine alloc_rule (d := I false []) fun b2 h2 => ?_
            refine call_fn (hdm y1 y2) (Seals.refl _ _) qS ?_
            rintro _ _ _ ⟨rfl, u1, u2, rfl, rfl⟩
            refine store_box (d := zd (lnum m b i / linD m)) 1 rfl h1 rfl (by kernel_rfl) (Reads.fact (v := u1) qM) ?_
            refine store_box (d := zd (lnum m b i % linD m)) 0 rfl h2 rfl (by kernel_rfl) (Reads.fact (v := u2) qM) ?_
            exact again (b1, b2) trivial trivial qF (Seals.trans (Seals.drop 0 _ _) (Seals.trans (Seals.box (d := zd (lnum m b i / linD m)) 0 rfl h1 rfl) (Seals.sub qS)))
          · refine ord_go [0, 1, 2, 3, 4, 11, 10, 5, 6, 7, 8, 9, 12, 13, 14] (by kernel_rfl) (by kernel_rfl) ?_
            refine index_fact (v := q) qM i rfl (by omega) fun a3 => ?_
            refine load_fact (d := J (L.getD i z0)) qM (load_J _) fun y1 => ?_
            refine load_box (d := zd (linD m)) 1 rfl hdb rfl (load_I _ _) fun y2 => ?_
            refine alloc_rule (d := I false []) fun b2 h2 => ?_
            refine alloc_rule (d := I false []) fun b1 h1 => ?_
            refine call_fn (hdm y1 y2) (Seals.refl _ _) qS ?_
            rintro _ _ _ ⟨rfl, u1, u2, rfl, rfl⟩
            refine store_box (d := zd (lnum m b i / linD m)) 0 rfl h1 rfl (by kernel_rfl) (Reads.fact (v := u1) qM) ?_
            refine store_box (d := zd (lnum m b i % linD m)) 1 rfl h2 rfl (by kernel_rfl) (Reads.fact (v := u2) qM) ?_
            exact again (b1, b2) trivial trivial qF (Seals.trans (Seals.box (d := zd (lnum m b i / linD m)) 0 rfl h1 rfl) (Seals.trans (Seals.drop 0 _ _) (Seals.sub qS)))
    rintro ⟨b1, b2⟩ _
    simp only
    refine load_fact (d := zd (lnum m b i / linD m)) qM (load_I _ _) fun y3 => ?_
    refine lit_L (size := 2) J z0 (cn (lnum m b i / linD m)) (by decide) (Reads.fact (v := y3) (d := zd (lnum m b i / linD m)) qM) rfl fun l1 => ?_
    refine append_L 0 rfl hcs (Knw.fact (v := l1) qM) (by simp; omega) (by simp; omega) fun o2 ho2 => ?_
    refine ar rfl qI ?_
    refine again (i + 1, o2) ⟨by simp only; omega, ho2⟩ (by simp only; omega) qF ?_
    simp only [range_snoc_map]
    exact Seals.sub (fs' := [(q, V L), (v, W m), (w, V b)]) qS
  have hin : i = m.length := by omega
  subst hin
  have hsum := rSum_meets v c m Q 1048576 (hf.mono (by omega)) hQf hr (by omega) (by decide) (by omega) lc
  have hcz : ∀ t, sz (comb m.length (rv Q) (rvm m) t) (1048576 + 1048576 + 1) := fun t => comb_sz (hf.mono (by omega)) hQf (by omega) t
  obtain ⟨S, hS, hSl, hSg, _⟩ := told_row (m.getD 0 []).length (fun t => comb m.length (rv Q) (rvm m) t)
  have hS' : vd (lsum m Q) = V S := hS
  have hcomb : ∀ t, comb m.length (rv Q) (rvm m) t = comb m.length (fun i => lnum m b i / linD m) (rvm m) t := fun t => isum_congr fun i hi => by rw [hQv i hi]
  rw [hS'] at hsum
  refine call_fn hsum (Seals.trans (Seals.L 0 rfl hcs) (Seals.cons ((Knw.fact (List.Mem.head _)).cast ((vd_LD m.length fun i => lnum m b i / linD m).trans hQ)) (Seals.refl _ _))) qS ?_
  rintro s _ _ ⟨rfl, rfl⟩
  refine loop_rule (X := Nat) (fun t => ([(1, w), (14, c), (19, s), (20, .int .i64 (t : Nat))], [], [(s, V S), (c, V Q), (w, V b)]))
    (fun t => t ≤ b.length ∧ ∀ j, j < t → comb m.length (fun i => lnum m b i / linD m) (rvm m) j = rv b j) (fun t => b.length - t) rfl ?_ ?_
  · exact again 0 ⟨Nat.zero_le _, fun j hj => absurd hj (Nat.not_lt_zero _)⟩ trivial qF (Seals.trans (Seals.drop 0 _ _) (Seals.sub qS))
  rintro t ⟨ht, hall⟩
  refine len_fact (v := w) (n := b.length) qM fun _ => ?_
  refine cmp_split _ rfl (fun hc3 => ?_) (fun hc3 => ?_)
  · have htb : t < b.length := by omega
    have f1 := hb.get t
    have hcmp : ∀ y1 y2, Meets Tryz.prog 60 [y1, y2] [(y1, J (S.getD t z0)), (y2, J (b.getD t z0))] (fun r os fs => os = [] ∧ fs = [] ∧ r = .int .i64 (comb m.length (fun i => lnum m b i / linD m) (rvm m) t - rv b t).sign) := fun y1 y2 => by
      have := rCmpJ y1 y2 (S.getD t z0) (b.getD t z0) 2097153 (by rw [hSg t (by omega)]; exact Lim_lims _) (by rw [hSg t (by omega)]; exact (hcz t).len) f1.1 (by omega) (by decide)
      rw [show jv (S.getD t z0) = comb m.length (fun i => lnum m b i / linD m) (rvm m) t by rw [hSg t (by omega), jv_cn, hcomb t]] at this
      exact this
    refine draw_rule [0, 1, 2, 3, 4, 5, 6, 7, 8, 9] [0, 1, 2, 3, 4, 5, 6, 7, 8, 9] (by kernel_rfl) (by kernel_rfl) ?_
    refine index_fact (v := s) qM t rfl (by omega) fun a4 => ?_
    refine load_fact (d := J (S.getD t z0)) qM (load_J _) fun y1 => ?_
    refine index_fact (v := w) qM t rfl (by omega) fun a5 => ?_
    refine load_fact (d := J (b.getD t z0)) qM (load_J _) fun y2 => ?_
    refine call_fn (hcmp y1 y2) (Seals.refl _ _) qS ?_
    rintro _ _ _ ⟨rfl, rfl, rfl⟩
    refine cmp_split _ rfl (fun hne => ?_) (fun hne => ?_)
    · have hx : comb m.length (fun i => lnum m b i / linD m) (rvm m) t ≠ rv b t := fun e => hne (by rw [e, Int.sub_self]; rfl)
      rw [lins_no hr hbl h0 (by omega) hx]
      exact fin ⟨rfl, .slice none 0 0, rfl, rfl⟩ (Seals.cons (Knw.nil 2 _) (Seals.nil _ _))
    · have hx : comb m.length (fun i => lnum m b i / linD m) (rvm m) t = rv b t := by
        have := Int.sign_eq_zero_iff_zero.1 (show (comb m.length (fun i => lnum m b i / linD m) (rvm m) t - rv b t).sign = 0 by omega)
        omega
      refine ar rfl qI ?_
      refine again (t + 1) ⟨by omega, fun j hj => ?_⟩ (by simp only; omega) qF (Seals.sub (fs' := [(s, V S), (c, V Q), (w, V b)]) qS)
      by_cases e : j = t
      · rw [e]; exact hx
      · exact hall j (by omega)
  · rw [lins_yes hr hbl h0 fun c hc => hall c (by omega)]
    exact fin ⟨rfl, c, rfl, rfl⟩ (Seals.cons ((Knw.fact (v := c) qM).cast hQ.symm) (Seals.nil _ _))
open Go.RowKit
theorem Eb_tiny {n : Nat} (h : n ≤ 4) : Eb (2 + 2 + 1) n ≤ 17179869184 := by
  have : n = 0 ∨ n = 1 ∨ n = 2 ∨ n = 3 ∨ n = 4 := by omega
  rcases this with rfl | rfl | rfl | rfl | rfl <;> decide
theorem ltells_meets (v w : Value) (a : List Row) (b : Row) (ha : limM a) (hb : limR b) :
    Meets Tryz.prog 4 [v, w] [(v, W a), (w, V b)] (fun r os fs => os = [] ∧ fs = [] ∧ r = .bool true) := by
  refine meets_of_vc Tryz.func4 (by kernel_rfl) rfl (by kernel_rfl) (Nat.le_of_ble_eq_true rfl) ?_
  refine call_fn (shown4_meets) (Seals.refl _ _) qS ?_
  rintro _ _ _ ⟨rfl, rfl, rfl⟩
  refine call_fn (rowsFits_meets v a 4 5 2) (Seals.refl _ _) qS ?_
  rintro _ _ _ ⟨rfl, rfl, rfl⟩
  by_cases hsa : small 4 5 2 a
  case neg =>
    rw [decide_eq_false hsa]
    exact fin ⟨rfl, rfl, rfl⟩ (Seals.nil _ _)
  rw [decide_eq_true hsa]
  refine call_fn (rFits_meets w b 5 2) (Seals.refl _ _) qS ?_
  rintro _ _ _ ⟨rfl, rfl, rfl⟩
  by_cases hsb : smallR 5 2 b
  case neg =>
    rw [decide_eq_false (show ¬ (b.length ≤ 5 ∧ ∀ x, x ∈ b → x.2.length ≤ 2) from hsb)]
    exact fin ⟨rfl, rfl, rfl⟩ (Seals.nil _ _)
  rw [decide_eq_true (show b.length ≤ 5 ∧ ∀ x, x ∈ b → x.2.length ≤ 2 from hsb)]
  have hfa := hsa.fits ha
  have hfb := hsb.fit hb
  have hca := hsa.cols
  have hla := hsa.1
  have hlb := hsb.1
  have hE := Eb_tiny hla
  have hrow : ∀ i, (a.getD i []).length ≤ 5 := fun i => by
    by_cases hi : i < a.length
    · exact (hsa.2 _ (getD_mem [] hi)).1
    · rw [List.getD_eq_getElem?_getD, List.getElem?_eq_none (by omega)]; decide
  refine call_fn (rowsOwn_meets v a (by omega) fun r hr => ⟨by have := (hsa.2 r hr).1; omega, fun x hx => by have := (hsa.2 r hr).2 x hx; omega⟩) (Seals.refl _ _) qS ?_
  rintro x _ _ ⟨rfl, rfl⟩
  refine call_fn (rOwn_meets w b (by omega) fun x hx => by have := hsb.2 x hx; omega) (Seals.refl _ _) qS ?_
  rintro y _ _ ⟨rfl, hy, rfl⟩
  have g2 : Meets Tryz.prog 12 [x, v] [(x, W a), (v, W a)] (fun r os fs => os = [] ∧ fs = [] ∧ r = .bool true) := by
    have := same4_meets x v a a
    rw [decide_eq_true rfl] at this
    exact this
  refine call_fn (lGram_meets x a 2 hfa (by omega) (by omega) (by omega)) (Seals.L 0 rfl hy) qS ?_
  rintro _ _ _ ⟨rfl, g, rfl, rfl⟩
  refine call_fn (rGram_meets v a 2 hfa (by omega) (by omega) (by omega)) (Seals.refl _ _) qS ?_
  rintro _ _ _ ⟨rfl, h, rfl, rfl⟩
  generalize (if right a then gml a else []) = G
  refine call_fn (lVolume_meets x a 2 hfa (by omega) (by omega) (by omega) hE) (Seals.refl _ _) qS ?_
  rintro _ _ _ ⟨rfl, m, rfl, rfl⟩
  refine alloc_rule (d := I false []) fun mb hmb => ?_
  refine store_box (d := zd (lvol a)) 0 rfl hmb rfl (by kernel_rfl) (Reads.fact (v := m) qM) ?_
  refine call_fn (rVolume_meets v a 2 hfa (by omega) (by omega) (by omega) (by omega)) (Seals.refl _ _) qS ?_
  rintro _ _ _ ⟨rfl, n, rfl, rfl⟩
  refine alloc_rule (d := I false []) fun nb hnb => ?_
  refine store_box (d := zd (lvol a)) 0 rfl hnb rfl (by kernel_rfl) (Reads.fact (v := n) qM) ?_
  generalize (if right a then (0 : Int) else 1) = E
  refine call_fn (lInside_meets x y a b 2 hfa hfb (by omega) (by omega) (by omega) hE) (Seals.refl _ _) qS ?_
  rintro _ _ _ ⟨rfl, c, rfl, rfl⟩
  refine call_fn (rInside_meets v w a b 2 hfa hfb (by omega) (by omega) (by omega) (by omega)) (Seals.refl _ _) qS ?_
  rintro _ _ _ ⟨rfl, d, rfl, rfl⟩
  refine len_fact (v := v) (n := a.length) qM fun _ => ?_
  refine cmp_split _ rfl (fun hpos => ?_) (fun hpos => ?_)
  · have h0 : 0 < a.length := by omega
    refine index_fact (v := x) qM 0 rfl h0 fun a1 => ?_
    refine load_fact (d := V (a.getD 0 [])) qM (load_V _) fun a2 => ?_
    refine call_fn (lDot_meets a2 y (a.getD 0 []) b 2 (hfa.get 0) hfb (by omega) (by omega)) (Seals.refl _ _) qS ?_
    rintro _ _ _ ⟨rfl, p, rfl, rfl⟩
    refine alloc_rule (d := I false []) fun pb hpb => ?_
    refine store_box (d := zd (ldt (a.getD 0 []) b)) 0 rfl hpb rfl (by kernel_rfl) (Reads.fact (v := p) qM) ?_
    refine index_fact (v := v) qM 0 rfl h0 fun a3 => ?_
    refine load_fact (d := V (a.getD 0 [])) qM (load_V _) fun a4 => ?_
    refine call_fn (rDot_meets a4 w (a.getD 0 []) b 2 (hfa.get 0) hfb (by omega) (by omega)) (Seals.refl _ _) qS ?_
    rintro _ _ _ ⟨rfl, q, rfl, rfl⟩
    refine alloc_rule (d := I false []) fun qb hqb => ?_
    refine store_box (d := zd (ldt (a.getD 0 []) b)) 0 rfl hqb rfl (by kernel_rfl) (Reads.fact (v := q) qM) ?_
    refine load_box (d := zd (ldt (a.getD 0 []) b)) 1 rfl hpb rfl (load_I _ _) fun z1 => ?_
    refine load_box (d := zd (ldt (a.getD 0 []) b)) 0 rfl hqb rfl (load_I _ _) fun z2 => ?_
    refine call_fn (exT z1 z2 _ _ rfl) (Seals.refl _ _) qS ?_
    rintro _ _ _ ⟨rfl, rfl, rfl⟩
    refine cmp_false rfl (fun h => h rfl) ?_
    refine call_fn (sameT g h G G rfl) (Seals.refl _ _) qS ?_
    rintro _ _ _ ⟨rfl, rfl, rfl⟩
    refine cmp_true rfl rfl ?_
    refine load_box (d := zd (lvol a)) 3 rfl hmb rfl (load_I _ _) fun y1 => ?_
    refine load_box (d := zd (lvol a)) 2 rfl hnb rfl (load_I _ _) fun y2 => ?_
    refine call_fn (exT y1 y2 _ _ rfl) (Seals.refl _ _) qS ?_
    rintro _ _ _ ⟨rfl, rfl, rfl⟩
    refine cmp_true rfl rfl ?_
    refine call_fn (exallT c d (lins a b).1 (lins a b).1 rfl) (Seals.refl _ _) qS ?_
    rintro _ _ _ ⟨rfl, rfl, rfl⟩
    refine cmp_true rfl rfl ?_
    refine call_fn (g2) (Seals.refl _ _) qS ?_
    rintro _ _ _ ⟨rfl, rfl, rfl⟩
    refine call_fn (exactAll_meets y w b b) (Seals.refl _ _) qS ?_
    rintro _ _ _ ⟨rfl, rfl, rfl⟩
    rw [decide_eq_true rfl]
    exact fin ⟨rfl, rfl, rfl⟩ (Seals.trans (Seals.drop 0 _ _) (Seals.trans (Seals.drop 0 _ _) (Seals.trans (Seals.drop 0 _ _) (Seals.trans (Seals.drop 0 _ _) (Seals.nil _ _)))))
  ·
    refine call_fn (sameT g h G G rfl) (Seals.refl _ _) qS ?_
    rintro _ _ _ ⟨rfl, rfl, rfl⟩
    refine cmp_true rfl rfl ?_
    refine load_box (d := zd (lvol a)) 1 rfl hmb rfl (load_I _ _) fun y1 => ?_
    refine load_box (d := zd (lvol a)) 0 rfl hnb rfl (load_I _ _) fun y2 => ?_
    refine call_fn (exT y1 y2 _ _ rfl) (Seals.refl _ _) qS ?_
    rintro _ _ _ ⟨rfl, rfl, rfl⟩
    refine cmp_true rfl rfl ?_
    refine call_fn (exallT c d (lins a b).1 (lins a b).1 rfl) (Seals.refl _ _) qS ?_
    rintro _ _ _ ⟨rfl, rfl, rfl⟩
    refine cmp_true rfl rfl ?_
    refine call_fn (g2) (Seals.refl _ _) qS ?_
    rintro _ _ _ ⟨rfl, rfl, rfl⟩
    refine call_fn (exactAll_meets y w b b) (Seals.refl _ _) qS ?_
    rintro _ _ _ ⟨rfl, rfl, rfl⟩
    rw [decide_eq_true rfl]
    exact fin ⟨rfl, rfl, rfl⟩ (Seals.trans (Seals.drop 0 _ _) (Seals.trans (Seals.drop 0 _ _) (Seals.nil _ _)))
end Go.Proofs.YtabdfhdddmbmlaaGreat
namespace Go.Proofs.YtabdfhdddmbmlaaGreat
open Go.ChangeShapes Go.WideShapes Go.ChangeAt Go.RowKit
open Go.Joins (open_agg2)
set_option maxRecDepth 100000 in
theorem latticeTells_lifted (os : Os) (started : os.Started) (H : Type) (enc : TypeId × Value → H) :
    ReturnsInHanded {} Tryz.checked os 4 .any (Rows.latticeTellsSpec.pre6 enc Tryz.prog Tryz.f4 Rows.latticeTellsRow.domain false) (Rows.latticeTellsSpec.post enc Tryz.prog Tryz.f4 false true false false) := by
  refine returnsInHanded_of_change (C := Tryz.checked) own0 started (by kernel_rfl) Tryz.func4
    (ChangeSpec.witness6 (enc := enc) (C := Tryz.checked) false ⟨#[], #[.slice none 0 0, .slice none 0 0], []⟩ 8 (by kernel_rfl) (by kernel_rfl) (by kernel_rfl) (by kernel_rfl)) ?_
  intro Wd base args ds gs before hval0 hW hcnd _
  have hval : ∀ (j : Nat) t v, Tryz.f4.params[j]? = some t → args[j]? = some v → Value.okWide Tryz.prog Wd .any base t v := hval0
  have hW' := hW
  obtain ⟨p, q, hA0, hV, rfl, hfz, hnd⟩ := hW
  have hA : DataW.TrodAll enc Tryz.prog Wd 0 (fun _ => true) true Tryz.f4.params.toList args.toList ds p := hA0
  rw [Tryz.params4] at hA hval
  obtain ⟨v0, vs0, d0, ds0, p0, q0, hargs, rfl, rfl, h0, r0⟩ := trodAll_cons hA
  obtain ⟨v1, vs1, d1, ds1, p1, q1, rfl, rfl, rfl, h1, r1⟩ := trodAll_cons r0
  obtain ⟨rfl, rfl, rfl⟩ := trodAll_nil r1
  obtain rfl : args = #[v0, v1] := by cases args; simp_all
  obtain ⟨rfl, rfl⟩ := trodVars_none hV
  obtain ⟨a0, n0, c0, rfl⟩ := okWide_slice Tryz.underlying22 (hval 0 22 v0 rfl rfl)
  have k0 := h0
  have lt0 : ∀ x ∈ p0, x.block < Wd.heap.size := by obtain ⟨m, hm⟩ := k0; exact DataW.trod_lt m _ _ _ hm
  obtain ⟨m0, lm0, rd0⟩ : ∃ m, limM m ∧ Rd (fun b => b < Wd.heap.size) Wd (.slice a0 n0 c0) (W m) := by
    obtain ⟨fuel, hf⟩ := h0
    obtain ⟨m, e1, e2⟩ := rd_rows hf
    exact ⟨m, e1, rd_val rfl e2⟩
  obtain ⟨a1, n1, c1, rfl⟩ := okWide_slice Tryz.underlying35 (hval 1 35 v1 rfl rfl)
  have k1 := h1
  have lt1 : ∀ x ∈ p1, x.block < Wd.heap.size := by obtain ⟨m, hm⟩ := k1; exact DataW.trod_lt m _ _ _ hm
  obtain ⟨m1, lm1, rd1⟩ : ∃ m, limR m ∧ Rd (fun b => b < Wd.heap.size) Wd (.slice a1 n1 c1) (V m) := by
    obtain ⟨fuel, hf⟩ := h1
    obtain ⟨m, e1, e2⟩ := rd_row hf
    exact ⟨m, e1, rd_val rfl e2⟩
  clear hA0 hval0
  refine (calls_of_meets (w := Wd) (ltells_meets (.slice a0 n0 c0) (.slice a1 n1 c1) m0 m1 lm0 lm1) ?_).mono fun e W2 ⟨he, bel⟩ => ?_
  · intro F hF
    simp only [List.mem_cons, List.not_mem_nil, or_false] at hF
    rcases hF with rfl | rfl
    · exact rd0
    · exact rd1
  subst he
  exact ⟨_, rfl, _, _, _, [], _, [], hW', trodAll_mk1 (shut_bool Tryz.underlying4 _), (trodAll_cons_mk (Below.trod laid0 (by kernel_rfl) (of_decide_eq_true (by kernel_rfl)) k0 bel lt0) (trodAll_cons_mk (Below.trod laid0 (by kernel_rfl) (of_decide_eq_true (by kernel_rfl)) k1 bel lt1) trodAll_mk0)), rfl, bel.frame _, fun h => by cases h⟩
theorem latticeTells_holds : Rows.LatticeTellsSaid :=
  OpenClaim.holds_of_wide 4 Tryz.f4 rfl rfl rfl rfl rfl rfl rfl ⟨rfl, rfl, rfl, rfl, rfl⟩ rfl rfl rfl rfl rfl (by kernel_rfl) Tryz.func4 (by kernel_rfl)
    (of_decide_eq_true (by kernel_rfl)) (by unfold Func.isWrapper; first | (rw [if_pos (by decide +kernel)]; kernel_rfl) | (rw [if_neg (by decide +kernel)]; exact ⟨rfl, rfl⟩))
    (fun os started H enc _ => latticeTells_lifted os started H enc)
#print axioms latticeTells_holds
end Go.Proofs.YtabdfhdddmbmlaaGreat
