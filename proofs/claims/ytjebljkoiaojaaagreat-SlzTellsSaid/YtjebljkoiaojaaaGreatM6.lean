/- Towards the statement, part 6 of 8: contracts of functions, and what they rest on. Conditions: each theorem names its own. -/
import Derived.Test.YtjebljkoiaojaaaGreatM5
set_option linter.unusedVariables false
set_option linter.unusedSimpArgs false
namespace Go.Proofs.YtjebljkoiaojaaaGreat
def ip (m : Nat) (u v : Nat → Int) : Int := isum (fun c => u c * v c) m
def gr (m : Nat) (b : Mx) : Mx := fun i j => ip m (b i) (b j)
def dn : Nat → List Nat
  | 0 => []
  | k + 1 => k :: dn k
def mi (G : Mx) (k i j : Nat) : Int := det (k + 1) (sub' G (i :: dn k) (j :: dn k))
def dG (G : Mx) (k : Nat) : Int := det k (sub' G (dn k) (dn k))
theorem dn_get {k j : Nat} (h : j < k) : (dn k).getD j 0 = k - 1 - j := by
  induction k generalizing j with
  | zero => omega
  | succ k ih =>
    cases j with
    | zero => rw [dn, List.getD_cons_zero]; omega
    | succ j => rw [dn, List.getD_cons_succ, ih (by omega)]; omega
theorem ip_comm (m : Nat) (u v : Nat → Int) : ip m u v = ip m v u := isum_congr fun c _ => Int.mul_comm _ _
theorem gr_symm (m : Nat) (b : Mx) (i j : Nat) : gr m b i j = gr m b j i := ip_comm _ _ _
theorem dG_zero (G : Mx) : dG G 0 = 1 := rfl
theorem dG_succ (G : Mx) (k : Nat) : dG G (k + 1) = mi G k k k := rfl
theorem mi_none (G : Mx) (i j : Nat) : mi G 0 i j = G i j := by simp [mi, dn, det, isum, sg, sub']
theorem mi_symm {G : Mx} (h : ∀ i j, G i j = G j i) (k i j : Nat) : mi G k i j = mi G k j i := by
  unfold mi
  rw [← det_tr]
  exact det_congr fun x y _ _ => h _ _
theorem mi_step {G : Mx} {k : Nat} (h : dG G k ≠ 0) (i j : Nat) : dG G k * mi G (k + 1) i j = dG G (k + 1) * mi G k i j - mi G k i k * mi G k k j :=
  sylv G k k i k j (dn k) (dn k) h
theorem mi_low {G : Mx} {k i j : Nat} (hj : j < k) : mi G k i j = 0 :=
  bord_zero G (dn k) (dn k) (j := k - 1 - j) (by omega) (by rw [dn_get (by omega)]; omega)
theorem mi_low' {G : Mx} (h : ∀ i j, G i j = G j i) {k i j : Nat} (hi : i < k) : mi G k i j = 0 := by rw [mi_symm h, mi_low hi]
theorem dG_congr {G H : Mx} {k : Nat} (h : ∀ i j, i < k → j < k → G i j = H i j) : dG G k = dG H k :=
  det_congr fun x y hx hy => by
    show G ((dn k).getD x 0) ((dn k).getD y 0) = H _ _
    rw [dn_get hx, dn_get hy]; exact h _ _ (by omega) (by omega)
def cf (G : Mx) (k r : Nat) : Int := sg r * det k (cut (sub' G (dn (k + 1)) (0 :: dn k)) r 0)
theorem cf_zero (G : Mx) (k : Nat) : cf G k 0 = dG G k := by
  unfold cf dG
  rw [sg_zero, Int.one_mul]
  exact det_congr fun x y _ _ => by simp [cut, sub', sk_zero, dn]
theorem mi_cf (G : Mx) (k j : Nat) : mi G k k j = isum (fun r => G (k - r) j * cf G k r) (k + 1) := by
  unfold mi
  rw [det]
  refine isum_congr fun r hr => ?_
  have e1 : det k (cut (sub' G (k :: dn k) (j :: dn k)) r 0) = det k (cut (sub' G (dn (k + 1)) (0 :: dn k)) r 0) := det_congr fun x y _ _ => by simp [cut, sub', sk_zero, dn]
  have e2 : sub' G (k :: dn k) (j :: dn k) r 0 = G (k - r) j := by
    show G ((dn (k + 1)).getD r 0) j = _
    rw [dn_get hr]; congr 1
  rw [e1, e2]; unfold cf; grind
def wv (m : Nat) (b : Mx) (k : Nat) : Nat → Int := fun c => isum (fun r => b (k - r) c * cf (gr m b) k r) (k + 1)
theorem ip_wv (m : Nat) (b : Mx) (k : Nat) (v : Nat → Int) : ip m (wv m b k) v = isum (fun r => ip m (b (k - r)) v * cf (gr m b) k r) (k + 1) := by
  unfold ip wv
  have h1 : isum (fun c => isum (fun r => b (k - r) c * cf (gr m b) k r) (k + 1) * v c) m = isum (fun c => isum (fun r => b (k - r) c * v c * cf (gr m b) k r) (k + 1)) m :=
    isum_congr fun c _ => by
      rw [← isum_mul_right]
      exact isum_congr fun r _ => by grind
  rw [h1, isum_swap]
  exact isum_congr fun r _ => isum_mul_right _ _ _
theorem wv_row (m : Nat) (b : Mx) (k j : Nat) : ip m (wv m b k) (b j) = mi (gr m b) k k j := by
  rw [ip_wv, mi_cf]; rfl
theorem wv_wv (m : Nat) (b : Mx) (k : Nat) : ip m (wv m b k) (wv m b k) = dG (gr m b) k * dG (gr m b) (k + 1) := by
  have h1 : ip m (wv m b k) (wv m b k) = isum (fun r => ip m (b (k - r)) (wv m b k) * cf (gr m b) k r) (k + 1) := ip_wv _ _ _ _
  rw [h1, isum_one (r := 0) (by omega) fun r hr h0 => by
    rw [ip_comm, wv_row, mi_low (by omega), Int.zero_mul], ip_comm, Nat.sub_zero, wv_row, cf_zero, dG_succ]
  exact Int.mul_comm _ _
theorem isum_nn {f : Nat → Int} {n : Nat} (h : ∀ i, i < n → 0 ≤ f i) : 0 ≤ isum f n := by
  induction n with
  | zero => exact Int.le_refl _
  | succ n ih => exact Int.add_nonneg (ih fun i hi => h i (by omega)) (h n (by omega))
theorem sq_nn (x : Int) : 0 ≤ x * x := by
  rcases Int.le_total 0 x with h | h
  · exact Int.mul_nonneg h h
  · have := Int.mul_nonneg (Int.neg_nonneg_of_nonpos h) (Int.neg_nonneg_of_nonpos h)
    rwa [Int.neg_mul_neg] at this
theorem ip_nn (m : Nat) (u : Nat → Int) : 0 ≤ ip m u u := isum_nn fun _ _ => sq_nn _
theorem dG_pos {m : Nat} {b : Mx} {n : Nat} (h : ∀ k, k ≤ n → dG (gr m b) k ≠ 0) : ∀ k, k ≤ n → 0 < dG (gr m b) k
  | 0, _ => by rw [dG_zero]; decide
  | k + 1, hk => by
    have h1 := dG_pos h k (by omega)
    have h2 : 0 ≤ dG (gr m b) k * dG (gr m b) (k + 1) := by rw [← wv_wv]; exact ip_nn _ _
    have h3 := h (k + 1) hk
    rcases Int.lt_trichotomy (dG (gr m b) (k + 1)) 0 with h4 | h4 | h4
    · have := Int.mul_neg_of_pos_of_neg h1 h4; omega
    · exact absurd h4 h3
    · exact h4
theorem cauchy (m : Nat) (u v : Nat → Int) : ip m u v * ip m u v ≤ ip m u u * ip m v v := by
  by_cases h0 : ip m u u = 0
  · have hz : ∀ c, c < m → u c = 0 := by
      intro c hc
      have key : ∀ n, isum (fun c => u c * u c) n = 0 → ∀ c, c < n → u c * u c = 0 := fun n => by
        induction n with
        | zero => intro _ c hc; omega
        | succ n ih =>
          intro hs c hc
          have h1 : 0 ≤ isum (fun c => u c * u c) n := isum_nn fun _ _ => sq_nn _
          have h2 := sq_nn (u n)
          have h3 : isum (fun c => u c * u c) n + u n * u n = 0 := hs
          by_cases e : c = n
          · rw [e]; omega
          · exact ih (by omega) c (by omega)
      rcases Int.mul_eq_zero.1 (key m h0 c hc) with h | h <;> exact h
    have : ip m u v = 0 := isum_zero fun c hc => by rw [hz c hc, Int.zero_mul]
    rw [this, h0]; simp
  · have hp : 0 < ip m u u := by have := ip_nn m u; omega
    have h1 : 0 ≤ ip m (fun c => ip m u u * v c - ip m u v * u c) (fun c => ip m u u * v c - ip m u v * u c) := ip_nn _ _
    have h2 : ip m (fun c => ip m u u * v c - ip m u v * u c) (fun c => ip m u u * v c - ip m u v * u c) = ip m u u * (ip m u u * ip m v v - ip m u v * ip m u v) := by
      generalize hA : ip m u u = A
      generalize hB : ip m u v = B
      have e : ip m (fun c => A * v c - B * u c) (fun c => A * v c - B * u c) = A * A * ip m v v - 2 * A * B * ip m u v + B * B * ip m u u := by
        unfold ip
        have e1 : isum (fun c => (A * v c - B * u c) * (A * v c - B * u c)) m = isum (fun c => A * A * (v c * v c) + (-(2 * A * B) * (u c * v c) + B * B * (u c * u c))) m := isum_congr fun c _ => by grind
        rw [e1, isum_add, isum_add, isum_mul, isum_mul, isum_mul]; grind
      rw [e, hA, hB]; grind
    rw [h2] at h1
    have := Int.nonneg_of_mul_nonneg_right (a := ip m u u) (b := ip m u u * ip m v v - ip m u v * ip m u v) (by exact h1) hp
    omega
end Go.Proofs.YtjebljkoiaojaaaGreat
namespace Go.Proofs.YtjebljkoiaojaaaGreat
def redq (b : Mx) (k j : Nat) (q : Int) : Mx := fun i c => if i = k then b k c - q * b j c else b i c
def sx (p : Nat) (i : Nat) : Nat := if i = p then p + 1 else if i = p + 1 then p else i
def swb (b : Mx) (p : Nat) : Mx := fun i c => b (sx p i) c
theorem sx_sx (p i : Nat) : sx p (sx p i) = i := by unfold sx; split <;> (try split) <;> (try split) <;> omega
theorem sx_at (p : Nat) : sx p p = p + 1 := if_pos rfl
theorem sx_at' (p : Nat) : sx p (p + 1) = p := by unfold sx; rw [if_neg (by omega), if_pos rfl]
theorem sx_low {p i : Nat} (h : i < p) : sx p i = i := by unfold sx; rw [if_neg (by omega), if_neg (by omega)]
theorem sx_high {p i : Nat} (h : p + 1 < i) : sx p i = i := by unfold sx; rw [if_neg (by omega), if_neg (by omega)]
theorem sx_lt {p i n : Nat} (hp : p + 1 < n) (h : i < n) : sx p i < n := by unfold sx; split <;> (try split) <;> omega
theorem ip_sub (m : Nat) (u v w : Nat → Int) (q : Int) : ip m (fun c => u c - q * v c) w = ip m u w - q * ip m v w := by
  unfold ip
  rw [isum_congr (g' := fun c => 1 * (u c * w c) + (-q) * (v c * w c)) fun c _ => by grind, isum_lin]; grind
def fq (T : Mx) (k j : Nat) (q : Int) (i i' : Nat) : Int :=
  T i i' - (if i = k then q * T j i' else 0) - (if i' = k then q * T i j else 0) + (if i = k ∧ i' = k then q * q * T j j else 0)
theorem gr_redq (m : Nat) (b : Mx) (k j : Nat) (q : Int) (hj : j ≠ k) (i i' : Nat) : gr m (redq b k j q) i i' = fq (gr m b) k j q i i' := by
  have e : ∀ i, redq b k j q i = fun c => b i c - (if i = k then q else 0) * b j c := fun i => by
    funext c; unfold redq; split
    · rename_i h; rw [h]
    · omega
  unfold gr
  rw [e i, e i', ip_sub, ip_comm m (b i) (fun c => b i' c - _ * b j c), ip_comm m (b j) (fun c => b i' c - _ * b j c), ip_sub, ip_sub]
  unfold fq
  simp only []
  rw [ip_comm m (b i') (b i), ip_comm m (b i') (b j), ip_comm m (b j) (b i)]
  by_cases h1 : i = k <;> by_cases h2 : i' = k <;> simp [h1, h2] <;> grind
theorem mi_redq {m : Nat} {b : Mx} {k j : Nat} {q : Int} (hj : j < k) : ∀ (s : Nat), (∀ t, t < s → dG (gr m b) t ≠ 0) →
    (∀ i i', mi (gr m (redq b k j q)) s i i' = fq (mi (gr m b) s) k j q i i') ∧ dG (gr m (redq b k j q)) s = dG (gr m b) s
  | 0, _ => ⟨fun i i' => by
      rw [mi_none, gr_redq m b k j q (by omega)]
      unfold fq
      simp only [mi_none], by rw [dG_zero, dG_zero]⟩
  | s + 1, h => by
    obtain ⟨ih, ig⟩ := mi_redq hj s fun t ht => h t (by omega)
    have sy := gr_symm m b
    have hs0 := h s (by omega)
    have hs1 : dG (gr m (redq b k j q)) (s + 1) = dG (gr m b) (s + 1) := by
      rw [dG_succ, dG_succ, ih]
      unfold fq
      by_cases e : s = k
      · subst e
        rw [mi_low hj, mi_low' sy hj, mi_low hj]; simp
      · simp [e]
    refine ⟨fun i i' => ?_, hs1⟩
    refine Int.eq_of_mul_eq_mul_left hs0 ?_
    have h1 := mi_step (G := gr m (redq b k j q)) (k := s) (by rw [ig]; exact hs0) i i'
    rw [ig, hs1, ih, ih, ih] at h1
    rw [h1]
    have st := mi_step (G := gr m b) (k := s) hs0
    have e1 := st i i'
    have e2 := st j i'
    have e3 := st i j
    have e4 := st j j
    have z1 : s = k → ∀ i, mi (gr m b) s i j = 0 := fun e i => mi_low (by omega)
    have z2 : s = k → ∀ i, mi (gr m b) s j i = 0 := fun e i => mi_low' sy (by omega)
    unfold fq
    by_cases e : s = k
    · have a1 := z1 e i
      have a2 := z1 e s
      have a3 := z1 e j
      have a4 := z2 e i'
      have a5 := z2 e s
      simp only [a1, a2, a3, a4, a5] at e2 e3 e4 ⊢
      by_cases h1 : i = k <;> by_cases h2 : i' = k <;> simp [h1, h2, e] at e1 e2 e3 e4 ⊢ <;> grind
    · by_cases h1 : i = k <;> by_cases h2 : i' = k <;> simp [h1, h2, e] at e1 e2 e3 e4 ⊢ <;> grind
theorem gr_swb (m : Nat) (b : Mx) (p i j : Nat) : gr m (swb b p) i j = gr m b (sx p i) (sx p j) := rfl
theorem mi_swb_low {m : Nat} {b : Mx} {p s : Nat} (hs : s ≤ p) (i j : Nat) : mi (gr m (swb b p)) s i j = mi (gr m b) s (sx p i) (sx p j) := by
  have e : ∀ (i x : Nat), x < s + 1 → sx p ((i :: dn s).getD x 0) = (sx p i :: dn s).getD x 0 := fun i x hx => by
    cases x with
    | zero => rfl
    | succ x => rw [List.getD_cons_succ, List.getD_cons_succ, dn_get (by omega), sx_low (by omega)]
  exact det_congr fun x y hx hy => by
    show gr m b (sx p _) (sx p _) = gr m b _ _
    rw [e i x hx, e j y hy]
theorem dG_swb_low {m : Nat} {b : Mx} {p s : Nat} (hs : s ≤ p) : dG (gr m (swb b p)) s = dG (gr m b) s :=
  dG_congr fun i j hi hj => by rw [gr_swb, sx_low (by omega), sx_low (by omega)]
theorem dG_swb_at (m : Nat) (b : Mx) (p : Nat) : dG (gr m (swb b p)) (p + 1) = mi (gr m b) p (p + 1) (p + 1) := by
  rw [dG_succ, mi_swb_low (Nat.le_refl _), sx_at]
theorem two_steps {D a b c d1 xi xj yi yj z Tij Ti Tj X : Int} (ha : a ≠ 0) (e1 : D * Tij = a * z - xi * xj) (e2 : D * Ti = a * yi - xi * c) (e3 : D * Tj = a * yj - c * xj) (e4 : D * d1 = a * b - c * c) (e5 : a * X = d1 * Tij - Ti * Tj) :
    D * D * X = (a * b - c * c) * z - b * (xi * xj) - a * (yi * yj) + c * (yi * xj + xi * yj) := by
  refine Int.eq_of_mul_eq_mul_left ha ?_
  have h : a * (D * D * X) = (D * d1) * (D * Tij) - (D * Ti) * (D * Tj) := by
    have : a * (D * D * X) = D * D * (a * X) := by grind
    rw [this, e5]; grind
  rw [h, e1, e2, e3, e4]; grind
theorem mi_swb_two {m : Nat} {b : Mx} {p : Nat} (h0 : dG (gr m b) p ≠ 0) (h1 : dG (gr m b) (p + 1) ≠ 0) (h2 : mi (gr m b) p (p + 1) (p + 1) ≠ 0) (i j : Nat) :
    mi (gr m (swb b p)) (p + 2) i j = mi (gr m b) (p + 2) (sx p i) (sx p j) := by
  have key : ∀ (b : Mx) (h0 : dG (gr m b) p ≠ 0) (h1 : dG (gr m b) (p + 1) ≠ 0) (i j : Nat), dG (gr m b) p * dG (gr m b) p * mi (gr m b) (p + 2) i j =
      (mi (gr m b) p p p * mi (gr m b) p (p + 1) (p + 1) - mi (gr m b) p (p + 1) p * mi (gr m b) p (p + 1) p) * mi (gr m b) p i j - mi (gr m b) p (p + 1) (p + 1) * (mi (gr m b) p i p * mi (gr m b) p p j) - mi (gr m b) p p p * (mi (gr m b) p i (p + 1) * mi (gr m b) p (p + 1) j) + mi (gr m b) p (p + 1) p * (mi (gr m b) p i (p + 1) * mi (gr m b) p p j + mi (gr m b) p i p * mi (gr m b) p (p + 1) j) := fun b h0 h1 i j => by
    have st := mi_step h0
    have sy : mi (gr m b) p p (p + 1) = mi (gr m b) p (p + 1) p := mi_symm (gr_symm m b) _ _ _
    exact two_steps (Tij := mi (gr m b) (p + 1) i j) (Ti := mi (gr m b) (p + 1) i (p + 1)) (Tj := mi (gr m b) (p + 1) (p + 1) j) (d1 := dG (gr m b) (p + 2)) h1
      (by rw [st, dG_succ]) (by rw [st, dG_succ, sy]) (by rw [st, dG_succ]) (by rw [dG_succ, st, dG_succ, sy]) (mi_step h1 i j)
  have ga := dG_swb_low (m := m) (b := b) (p := p) (Nat.le_refl p)
  have gb := dG_swb_at m b p
  refine Int.eq_of_mul_eq_mul_left (Int.mul_ne_zero h0 h0) ?_
  have k1 := key (swb b p) (by rw [ga]; exact h0) (by rw [gb]; exact h2) i j
  have k2 := key b h0 h1 (sx p i) (sx p j)
  rw [ga] at k1
  rw [k1, k2]
  simp only [mi_swb_low (Nat.le_refl p), sx_at, sx_at']
  have sy : mi (gr m b) p p (p + 1) = mi (gr m b) p (p + 1) p := mi_symm (gr_symm m b) _ _ _
  rw [sy]; grind
theorem dG_swb_two {m : Nat} {b : Mx} {p : Nat} (h0 : dG (gr m b) p ≠ 0) : dG (gr m (swb b p)) (p + 2) = dG (gr m b) (p + 2) := by
  have st := mi_step h0
  have sy : mi (gr m b) p p (p + 1) = mi (gr m b) p (p + 1) p := mi_symm (gr_symm m b) _ _ _
  have ga := dG_swb_low (m := m) (b := b) (p := p) (Nat.le_refl p)
  have gb := dG_swb_at m b p
  have st' := mi_step (G := gr m (swb b p)) (k := p) (by rw [ga]; exact h0) (p + 1) (p + 1)
  refine Int.eq_of_mul_eq_mul_left h0 ?_
  rw [dG_succ, dG_succ, st, ← ga, st', gb, dG_succ]
  simp only [mi_swb_low (Nat.le_refl p), sx_at, sx_at']
  rw [sy]; grind
theorem mi_swb_high {m : Nat} {b : Mx} {p : Nat} (h0 : dG (gr m b) p ≠ 0) (h1 : dG (gr m b) (p + 1) ≠ 0) (h2 : mi (gr m b) p (p + 1) (p + 1) ≠ 0) : ∀ (e : Nat), (∀ t, p + 2 ≤ t → t < p + 2 + e → dG (gr m b) t ≠ 0) →
    (∀ i j, mi (gr m (swb b p)) (p + 2 + e) i j = mi (gr m b) (p + 2 + e) (sx p i) (sx p j)) ∧ dG (gr m (swb b p)) (p + 2 + e) = dG (gr m b) (p + 2 + e)
  | 0, _ => ⟨mi_swb_two h0 h1 h2, dG_swb_two h0⟩
  | e + 1, h => by
    obtain ⟨ih, ig⟩ := mi_swb_high h0 h1 h2 e fun t h3 h4 => h t h3 (by omega)
    have hs0 := h (p + 2 + e) (by omega) (by omega)
    have hx : sx p (p + 2 + e) = p + 2 + e := sx_high (by omega)
    have hs1 : dG (gr m (swb b p)) (p + 2 + e + 1) = dG (gr m b) (p + 2 + e + 1) := by rw [dG_succ, dG_succ, ih, hx]
    refine ⟨fun i j => ?_, hs1⟩
    refine Int.eq_of_mul_eq_mul_left hs0 ?_
    have st' := mi_step (G := gr m (swb b p)) (k := p + 2 + e) (by rw [ig]; exact hs0) i j
    have st := mi_step (G := gr m b) (k := p + 2 + e) hs0 (sx p i) (sx p j)
    show dG (gr m b) (p + 2 + e) * mi (gr m (swb b p)) (p + 2 + e + 1) i j = dG (gr m b) (p + 2 + e) * mi (gr m b) (p + 2 + e + 1) (sx p i) (sx p j)
    rw [st, ← ig, st', hs1, ih, ih, ih, hx]
end Go.Proofs.YtjebljkoiaojaaaGreat
namespace Go.Proofs.YtjebljkoiaojaaaGreat
def rnd (x y : Int) : Int := (2 * x + y) / (2 * y)
theorem rnd_near {x y : Int} (h : 0 < y) : - y ≤ 2 * (x - rnd x y * y) ∧ 2 * (x - rnd x y * y) < y := by
  have h1 := Int.emod_add_mul_ediv (2 * x + y) (2 * y)
  have h2 := Int.emod_nonneg (2 * x + y) (show 2 * y ≠ 0 by omega)
  have h3 := Int.emod_lt_of_pos (2 * x + y) (show 0 < 2 * y by omega)
  have e : 2 * y * ((2 * x + y) / (2 * y)) = 2 * (rnd x y * y) := by unfold rnd; grind
  rw [e] at h1
  omega
def lm (m : Nat) (b : Mx) (k j : Nat) : Int := mi (gr m b) j k j
def dm (m : Nat) (b : Mx) (k : Nat) : Int := dG (gr m b) k
def redr (m k : Nat) : Nat → Mx → Mx → Mx × Mx
  | 0, b, u => (b, u)
  | j + 1, b, u => redr m k j (redq b k j (rnd (lm m b k j) (dm m b (j + 1)))) (redq u k j (rnd (lm m b k j) (dm m b (j + 1))))
def farL (m : Nat) (b : Mx) (k : Nat) : Prop := 3 * (dm m b k * dm m b k) ≤ 4 * (dm m b (k + 1) * dm m b (k - 1) + lm m b k (k - 1) * lm m b k (k - 1))
instance (m : Nat) (b : Mx) (k : Nat) : Decidable (farL m b k) := inferInstanceAs (Decidable (_ ≤ _))
def lrun (m n : Nat) : Nat → Mx → Mx → Nat → Option (Mx × Mx)
  | 0, _, _, _ => none
  | f + 1, b, u, k => if n ≤ k then some (b, u)
    else if farL m (redr m k k b u).1 k then lrun m n f (redr m k k b u).1 (redr m k k b u).2 (k + 1)
    else lrun m n f (swb (redr m k k b u).1 (k - 1)) (swb (redr m k k b u).2 (k - 1)) (max 1 (k - 1))
theorem redr_succ (m k j : Nat) (b u : Mx) : redr m k (j + 1) b u = redr m k j (redq b k j (rnd (lm m b k j) (dm m b (j + 1)))) (redq u k j (rnd (lm m b k j) (dm m b (j + 1)))) := rfl
def Ind (m n : Nat) (b : Mx) : Prop := ∀ t, t ≤ n → 0 < dm m b t
theorem Ind.ne {m n : Nat} {b : Mx} (h : Ind m n b) {t : Nat} (ht : t ≤ n) : dG (gr m b) t ≠ 0 := by have := h t ht; unfold dm at this; omega
section
variable {m n : Nat} {b u : Mx} {k j : Nat} {q : Int}
theorem dm_redq (h : Ind m n b) (hj : j < k) {t : Nat} (ht : t ≤ n) : dm m (redq b k j q) t = dm m b t :=
  (mi_redq hj t fun s hs => h.ne (by omega)).2
theorem Ind.redq (h : Ind m n b) (hj : j < k) : Ind m n (redq b k j q) := fun t ht => by rw [dm_redq h hj ht]; exact h t ht
theorem lm_redq (h : Ind m n b) (hj : j < k) {i t : Nat} (ht : t < i) (hi : i < n) :
    lm m (redq b k j q) i t = if i = k then (if t < j then lm m b k t - q * lm m b j t else if t = j then lm m b k j - q * dm m b (j + 1) else lm m b k t) else lm m b i t := by
  have sy := gr_symm m b
  unfold lm
  rw [(mi_redq hj t fun s hs => h.ne (by omega)).1]
  unfold fq
  by_cases e : i = k
  · have htk : t ≠ k := by omega
    simp only [e, if_true, htk, if_false, and_false]
    by_cases h1 : t < j
    · simp [h1]
    · by_cases h2 : t = j
      · subst h2; simp [dm, dG_succ]
      · rw [if_neg h1, if_neg h2, mi_low' sy (show j < t by omega)]; simp
  · simp only [e, if_false, false_and]
    by_cases h1 : t = k
    · subst h1
      rw [if_pos rfl, mi_low hj]; simp
    · rw [if_neg h1]; simp
def Size (m : Nat) (b : Mx) (k j : Nat) : Prop := ∀ t, j ≤ t → t < k → - dm m b (t + 1) ≤ 2 * lm m b k t ∧ 2 * lm m b k t < dm m b (t + 1)
theorem Size.next (h : Ind m n b) (hs : Size m b k (j + 1)) (hj : j < k) (hk : k < n) : Size m (redq b k j (rnd (lm m b k j) (dm m b (j + 1)))) k j := fun t h1 h2 => by
  rw [dm_redq h hj (by omega), lm_redq h hj h2 hk, if_pos rfl, if_neg (by omega)]
  split
  · rename_i e
    subst e
    exact rnd_near (h (t + 1) (by omega))
  · exact hs t (by omega) h2
structure Way (m n k : Nat) (b b' : Mx) : Prop where
  ind : Ind m n b'
  d : ∀ t, t ≤ n → dm m b' t = dm m b t
  l : ∀ i t, t < i → i < n → i ≠ k → lm m b' i t = lm m b i t
theorem redr_way (hk : k < n) : ∀ (j : Nat) (b u : Mx), j ≤ k → Ind m n b → Size m b k j → Way m n k b (redr m k j b u).1 ∧ Size m (redr m k j b u).1 k 0
  | 0, b, u, _, h, hs => ⟨⟨h, fun _ _ => rfl, fun _ _ _ _ _ => rfl⟩, hs⟩
  | j + 1, b, u, hj, h, hs => by
    obtain ⟨w, ws⟩ := redr_way hk j (redq b k j (rnd (lm m b k j) (dm m b (j + 1)))) (redq u k j (rnd (lm m b k j) (dm m b (j + 1)))) (by omega) (h.redq (by omega)) (hs.next h (by omega) hk)
    exact ⟨⟨w.ind, fun t ht => by rw [redr_succ, w.d t ht, dm_redq h (by omega) ht], fun i t h1 h2 h3 => by rw [redr_succ, w.l i t h1 h2 h3, lm_redq h (by omega) h1 h2, if_neg h3]⟩, ws⟩
theorem redr_full (hk : k < n) (h : Ind m n b) : Way m n k b (redr m k k b u).1 ∧ Size m (redr m k k b u).1 k 0 :=
  redr_way hk k b u (Nat.le_refl _) h fun t h1 h2 => by omega
theorem dd {p : Nat} (h : Ind m n b) (hp : p + 1 < n) : dm m b (p + 1) * mi (gr m b) p (p + 1) (p + 1) = dm m b p * dm m b (p + 2) + lm m b (p + 1) p * lm m b (p + 1) p := by
  have st := mi_step (G := gr m b) (k := p) (h.ne (by omega)) (p + 1) (p + 1)
  rw [mi_symm (gr_symm m b) p p (p + 1)] at st
  unfold dm lm
  rw [dG_succ (gr m b) (p + 1)]
  omega
theorem dd_pos {p : Nat} (h : Ind m n b) (hp : p + 1 < n) : 0 < mi (gr m b) p (p + 1) (p + 1) := by
  have e := dd h hp
  have h1 := Int.mul_pos (h p (by omega)) (h (p + 2) (by omega))
  have h2 := sq_nn (lm m b (p + 1) p)
  have h3 : 0 < dm m b (p + 1) * mi (gr m b) p (p + 1) (p + 1) := by omega
  exact Int.pos_of_mul_pos_right_of_pos h3 (h (p + 1) (by omega))
where
  Int.pos_of_mul_pos_right_of_pos {a b : Int} (h : 0 < a * b) (ha : 0 < a) : 0 < b := by
    rcases Int.lt_trichotomy b 0 with h1 | h1 | h1
    · have := Int.mul_neg_of_pos_of_neg ha h1; omega
    · rw [h1, Int.mul_zero] at h; omega
    · exact h1
theorem dm_swb {p : Nat} (h : Ind m n b) (hp : p + 1 < n) {t : Nat} (ht : t ≤ n) : dm m (swb b p) t = if t = p + 1 then mi (gr m b) p (p + 1) (p + 1) else dm m b t := by
  unfold dm
  by_cases h1 : t ≤ p
  · rw [if_neg (by omega)]; exact dG_swb_low h1
  · by_cases h2 : t = p + 1
    · rw [if_pos h2, h2]; exact dG_swb_at _ _ _
    · rw [if_neg h2]
      obtain ⟨e, rfl⟩ : ∃ e, t = p + 2 + e := ⟨t - (p + 2), by omega⟩
      exact (mi_swb_high (h.ne (by omega)) (h.ne (by omega)) (by have := dd_pos h hp; omega) e fun s h3 h4 => h.ne (by omega)).2
theorem Ind.swb {p : Nat} (h : Ind m n b) (hp : p + 1 < n) : Ind m n (swb b p) := fun t ht => by
  rw [dm_swb h hp ht]; split
  · exact dd_pos h hp
  · exact h t ht
theorem lm_swb {p : Nat} (h : Ind m n b) (hp : p + 1 < n) {i t : Nat} (ht : t < i) (hi : i < n) :
    lm m (swb b p) i t = if i = p + 1 ∧ t = p then lm m b (p + 1) p else if t = p then mi (gr m b) p i (p + 1) else if t = p + 1 then mi (gr m (swb b p)) (p + 1) i (p + 1) else lm m b (sx p i) t := by
  unfold lm
  by_cases h1 : t < p
  · rw [if_neg (by omega), if_neg (by omega), if_neg (by omega), mi_swb_low (by omega), sx_low (i := t) h1]
  · by_cases h2 : t = p
    · subst h2
      rw [mi_swb_low (Nat.le_refl _), sx_at]
      by_cases h3 : i = t + 1
      · subst h3
        rw [if_pos ⟨rfl, rfl⟩, sx_at', mi_symm (gr_symm m b)]
      · rw [if_neg (by omega), if_pos rfl, sx_high (by omega)]
    · by_cases h4 : t = p + 1
      · rw [if_neg (by omega), if_neg h2, if_pos h4, h4]
      · rw [if_neg (by omega), if_neg h2, if_neg h4]
        obtain ⟨e, rfl⟩ : ∃ e, t = p + 2 + e := ⟨t - (p + 2), by omega⟩
        rw [(mi_swb_high (h.ne (by omega)) (h.ne (by omega)) (by have := dd_pos h hp; omega) e fun s h3 h4 => h.ne (by omega)).1, sx_high (i := p + 2 + e) (by omega)]
theorem lm_swb_one {p : Nat} (h : Ind m n b) (hp : p + 1 < n) {i : Nat} (hi : p + 1 < i) (hn : i < n) :
    dm m b (p + 1) * lm m (swb b p) i (p + 1) = dm m b (p + 2) * lm m b i p - lm m b (p + 1) p * lm m b i (p + 1) := by
  rw [lm_swb h hp (by omega) hn, if_neg (by omega), if_neg (by omega), if_pos rfl]
  have h0 := h.ne (t := p) (by omega)
  have st := mi_step (G := gr m b) (k := p) h0
  have gs := dG_swb_low (m := m) (b := b) (p := p) (Nat.le_refl p)
  have st' := mi_step (G := gr m (swb b p)) (k := p) (by rw [gs]; exact h0) i (p + 1)
  rw [gs, dG_swb_at] at st'
  simp only [mi_swb_low (Nat.le_refl p), sx_at, sx_at', sx_high hi] at st'
  have e1 := st i (p + 1)
  have e2 := st (p + 1) (p + 1)
  have sy := mi_symm (gr_symm m b) p p (p + 1)
  unfold lm dm at *
  rw [dG_succ] at e1 e2 ⊢
  rw [dG_succ (gr m b) (p + 1)]
  refine Int.eq_of_mul_eq_mul_left h0 ?_
  try rw [sy] at e1
  try rw [sy] at e2
  try rw [sy] at st'
  grind
theorem lm_swb_two {p : Nat} (h : Ind m n b) (hp : p + 1 < n) {i : Nat} (hi : p + 1 < i) (hn : i < n) :
    dm m b (p + 2) * lm m (swb b p) i p = mi (gr m b) p (p + 1) (p + 1) * lm m b i (p + 1) + lm m b (p + 1) p * lm m (swb b p) i (p + 1) := by
  have h1 := lm_swb_one h hp hi hn
  have e0 : lm m (swb b p) i p = mi (gr m b) p i (p + 1) := by rw [lm_swb h hp (by omega) hn, if_neg (by omega), if_pos rfl]
  rw [e0]
  have h0 := h.ne (t := p) (by omega)
  have ha := h.ne (t := p + 1) (by omega)
  have st := mi_step (G := gr m b) (k := p) h0
  have e1 := st i (p + 1)
  have e2 := st (p + 1) (p + 1)
  have sy := mi_symm (gr_symm m b) p p (p + 1)
  generalize lm m (swb b p) i (p + 1) = X at *
  unfold lm dm at *
  rw [dG_succ (gr m b) (p + 1)] at *
  try rw [sy] at e1
  try rw [sy] at e2
  refine Int.eq_of_mul_eq_mul_left h0 (Int.eq_of_mul_eq_mul_left ha ?_)
  generalize dG (gr m b) p = D at *
  generalize dG (gr m b) (p + 1) = a at *
  grind
end
open Go.RowKit
theorem zShlJ (v : Value) (x : Bool × List Nat) (n : Int) (hx : Lim x.2) (lx : x.2.length ≤ 1099511627776) :
    Meets Tryz.prog 117 [v, .int .i64 n] [(v, J x)] (fun r os fs => os = [] ∧ fs = [(r, zd (jv x * 2 ^ far n))]) := by
  have e : (if x.1 then -((nv x.2 * 2 ^ far n : Nat) : Int) else ((nv x.2 * 2 ^ far n : Nat) : Int)) = jv x * 2 ^ far n := by
    unfold jv iv
    cases x.1 <;> simp [Int.neg_mul]
  have hm := fun u => made_lims u x.1 (nv x.2 * 2 ^ far n)
  rw [e] at hm
  refine meets_of_vc Tryz.func117 (by kernel_rfl) rfl (by kernel_rfl) (Nat.le_of_ble_eq_true rfl) ?_
  refine box_rule (Reads.fact (d := I x.1 x.2) qM) fun p hp => ?_
  refine alloc_rule (d := I false []) fun o ho => ?_
  refine draw_rule [0, 1, 2, 3, 4, 5, 6, 7] [0, 1, 2, 3, 4, 5, 6, 7] (by kernel_rfl) (by kernel_rfl) ?_
  refine field_box 1 rfl hp ?_
  refine load_box_field_one 1 rfl (Part.left (Part.refl _)) ?_
  refine field_box 1 rfl hp ?_
  refine load_box_field 1 rfl (Part.right (Part.refl _)) (load_L _) fun u1 => ?_
  refine call_fn (shl_meets u1 x.2 n hx lx) (Seals.refl _ _) qS ?_
  rintro u2 _ _ ⟨rfl, rfl⟩
  refine call_fn (hm u2) (Seals.refl _ _) qS ?_
  rintro u3 _ _ ⟨rfl, rfl⟩
  refine store_box (d := zd (jv x * 2 ^ far n)) 0 rfl ho rfl (by kernel_rfl) ?_ ?_; exact Reads.fact qM
  refine load_box (d := zd (jv x * 2 ^ far n)) 0 rfl ho rfl (load_I _ _) fun r => ?_
  exact fin ⟨rfl, rfl⟩ (Seals.trans (Seals.drop 0 _ _) (Seals.trans (Seals.drop 0 _ _) (Seals.sub (fs' := [(r, zd (jv x * 2 ^ far n))]) qS)))
theorem zShlZ (v : Value) (x : Int) (n : Int) (a : Nat) (hx : sz x a) (ha : a ≤ 1099511627776) :
    Meets Tryz.prog 117 [v, .int .i64 n] [(v, zd x)] (fun r os fs => os = [] ∧ fs = [(r, zd (x * 2 ^ far n))]) := by
  have h := zShlJ v (cn x) n (Lim_lims _) (Nat.le_trans hx.len ha)
  rw [jv_cn] at h
  exact h
theorem zd_pos {y : Int} (h : 0 < y) : zd y = I false (lims y.natAbs) := by
  rw [zd_I, decide_eq_false (by omega)]
theorem zDown_meets (v w : Value) (x y : Int) (a b : Nat) (hx : sz x a) (hy : sz y b) (ha : a ≤ 137438953472) (hb : b ≤ 137438953472) (h0 : 0 < y) :
    Meets Tryz.prog 151 [v, w] [(v, zd x), (w, zd y)] (fun r os fs => os = [] ∧ ∃ q, r = .tuple #[q, .bool true] ∧ fs = [(q, zd (x / y))]) := by
  have hc := fun u1 u2 => zDivModZ u1 u2 x y a b hx hy ha hb (by omega)
  have e := zd_pos h0
  refine meets_of_vc Tryz.func151 (by kernel_rfl) rfl (by kernel_rfl) (Nat.le_of_ble_eq_true rfl) ?_
  refine box_rule (Reads.fact (d := zd x) qM) fun p hp => ?_
  refine box_rule (Reads.fact (d := zd y) qM) fun q hq => ?_
  refine alloc_rule (d := I false []) fun o ho => ?_
  refine field_box 1 rfl hq ?_
  refine load_box_field_one (u := .bool false) 1 rfl (show Part 0 (zd y) (.one (.bool false)) by rw [e]; exact Part.left (Part.refl _)) ?_
  refine load_box (d := zd x) 2 rfl hp rfl (load_I _ _) fun u1 => ?_
  refine load_box (d := zd y) 1 rfl hq rfl (load_I _ _) fun u2 => ?_
  refine call_fn (hc u1 u2) (Seals.refl _ _) qS ?_
  rintro _ _ _ ⟨rfl, z, m, rfl, rfl⟩
  refine alloc_rule (d := I false []) fun c1 h1 => ?_
  refine alloc_rule (d := I false []) fun c2 h2 => ?_
  refine store_box (d := zd (x / y)) 1 rfl h1 rfl (by kernel_rfl) ?_ ?_; exact Reads.fact qM
  refine store_box (d := zd (x % y)) 0 rfl h2 rfl (by kernel_rfl) ?_ ?_; exact Reads.fact qM
  refine load_box (d := zd (x / y)) 1 rfl h1 rfl (load_I _ _) fun u3 => ?_
  refine store_box (d := zd (x / y)) 2 rfl ho rfl (by kernel_rfl) ?_ ?_; exact Reads.fact qM
  refine load_box (d := zd (x / y)) 2 rfl ho rfl (load_I _ _) fun r => ?_
  exact fin ⟨rfl, r, rfl, rfl⟩ (Seals.trans (Seals.drop 0 _ _) (Seals.trans (Seals.drop 0 _ _) (Seals.trans (Seals.drop 0 _ _) (Seals.trans (Seals.drop 0 _ _) (Seals.trans (Seals.drop 0 _ _) (Seals.sub (fs' := [(r, zd (x / y))]) qS))))))
theorem zRound_meets (v w : Value) (x y : Int) (a : Nat) (hx : sz x a) (hy : sz y a) (ha : a + 2 ≤ 137438953472) (h0 : 0 < y) :
    Meets Tryz.prog 115 [v, w] [(v, zd x), (w, zd y)] (fun r os fs => os = [] ∧ ∃ q, r = .tuple #[q, .bool true] ∧ fs = [(q, zd (rnd x y))]) := by
  have s1 : sz (x * 2) (a + 1) := hx.mul (sz_one' 2 (by decide))
  have s2 : sz (y * 2) (a + 1) := hy.mul (sz_one' 2 (by decide))
  have s3 : sz (x * 2 + y) (a + 2) := by
    have := sz_sub s1 ((hy.neg).mono (show a ≤ a + 1 by omega))
    rw [show x * 2 - -y = x * 2 + y by omega] at this
    exact this
  have f1 : (2 : Int) ^ far 1 = 2 := by decide
  have c1 := fun u => zShlZ u x 1 a hx (by omega)
  have c2 := fun u => zShlZ u y 1 a hy (by omega)
  rw [f1] at c1 c2
  have c3 := fun u1 u2 => zAddZ u1 u2 (x * 2) y (a + 1) a s1 hy (by omega) (by omega)
  have c4 := fun u1 u2 => zDown_meets u1 u2 (x * 2 + y) (y * 2) (a + 2) (a + 1) s3 s2 ha (by omega) (by omega)
  rw [show (x * 2 + y) / (y * 2) = rnd x y by unfold rnd; rw [Int.mul_comm x, Int.mul_comm y]] at c4
  refine meets_of_vc Tryz.func115 (by kernel_rfl) rfl (by kernel_rfl) (Nat.le_of_ble_eq_true rfl) ?_
  refine box_rule (Reads.fact (d := zd x) qM) fun p hp => ?_
  refine box_rule (Reads.fact (d := zd y) qM) fun q hq => ?_
  refine alloc_rule (d := I false []) fun o ho => ?_
  refine draw_rule [0, 2, 4, 1, 3, 5, 6, 7, 8, 9, 10] [0, 1, 2, 3, 4, 5, 6, 7, 8, 9, 10] (by kernel_rfl) (by kernel_rfl) ?_
  refine load_box (d := zd x) 2 rfl hp rfl (load_I _ _) fun u1 => ?_
  refine load_box (d := zd y) 1 rfl hq rfl (load_I _ _) fun u2 => ?_
  refine load_box (d := zd y) 1 rfl hq rfl (load_I _ _) fun u3 => ?_
  refine call_fn (c1 u1) (Seals.refl _ _) qS ?_
  rintro u4 _ _ ⟨rfl, rfl⟩
  refine call_fn (c3 u4 u2) (Seals.refl _ _) qS ?_
  rintro u5 _ _ ⟨rfl, rfl⟩
  refine call_fn (c2 u3) (Seals.refl _ _) qS ?_
  rintro u6 _ _ ⟨rfl, rfl⟩
  refine call_fn (c4 u5 u6) (Seals.refl _ _) qS ?_
  rintro _ _ _ ⟨rfl, z, rfl, rfl⟩
  refine store_box (d := zd (rnd x y)) 0 rfl ho rfl (by kernel_rfl) ?_ ?_; exact Reads.fact qM
  refine load_box (d := zd (rnd x y)) 0 rfl ho rfl (load_I _ _) fun r => ?_
  exact fin ⟨rfl, r, rfl, rfl⟩ (Seals.trans (Seals.drop 0 _ _) (Seals.trans (Seals.drop 0 _ _) (Seals.trans (Seals.drop 0 _ _) (Seals.sub (fs' := [(r, zd (rnd x y))]) qS))))
where
  sz_one' (x : Int) (h : x.natAbs < 18446744073709551616) : sz x 1 := by unfold sz; simpa using h
theorem cmp_sign (x y : Int) : (if x.sign < y.sign then -1 else if y.sign < x.sign then 1 else x.sign * cmpN x.natAbs y.natAbs) = (x - y).sign := by
  have sg : ∀ z : Int, z < 0 → z.sign = -1 := fun z h => Int.sign_eq_neg_one_of_neg h
  have sp : ∀ z : Int, 0 < z → z.sign = 1 := fun z h => Int.sign_eq_one_of_pos h
  have fin : ∀ c : Int, (c = -1 ∧ x - y < 0) ∨ (c = 1 ∧ 0 < x - y) ∨ (c = 0 ∧ x - y = 0) → c = (x - y).sign := fun c h => by
    rcases h with ⟨h1, h2⟩ | ⟨h1, h2⟩ | ⟨h1, h2⟩
    · rw [h1, sg _ h2]
    · rw [h1, sp _ h2]
    · rw [h1, h2]; rfl
  refine fin _ ?_
  unfold cmpN
  rcases Int.lt_trichotomy x 0 with hx | hx | hx <;> rcases Int.lt_trichotomy y 0 with hy | hy | hy
  · rw [sg _ hx, sg _ hy]; simp only [Int.lt_irrefl, if_false]; split
    · right; left; omega
    · split
      · left; omega
      · right; right; omega
  · rw [sg _ hx, hy]; left; simp; omega
  · rw [sg _ hx, sp _ hy]; left; simp; omega
  · rw [hx, sg _ hy]; right; left; simp; omega
  · rw [hx, hy]; right; right; simp
  · rw [hx, sp _ hy]; left; simp; omega
  · rw [sp _ hx, sg _ hy]; right; left; simp; omega
  · rw [sp _ hx, hy]; right; left; simp; omega
  · rw [sp _ hx, sp _ hy]; simp only [Int.lt_irrefl, if_false]; split
    · left; omega
    · split
      · right; left; omega
      · right; right; omega
theorem zCmpSW (v w : Value) (s t : Bool) (a b : List Nat) (ha : Lim a) (hb : Lim b) (la : a.length ≤ 137438953472) (lb : b.length ≤ 137438953472) :
    Meets Tryz.prog 95 [v, w] [(v, I s a), (w, I t b)] (fun r os fs => os = [] ∧ fs = [] ∧ r = .int .i64 (iv s a - iv t b).sign) := by
  have hc := cmp_sign (iv s a) (iv t b)
  rw [iv_abs, iv_abs] at hc
  have hr := cmpN_range (nv a) (nv b)
  have hsg : ∀ x : Int, -1 ≤ x.sign ∧ x.sign ≤ 1 := fun x => by
    rcases Int.lt_trichotomy x 0 with h | h | h
    · rw [Int.sign_eq_neg_one_of_neg h]; omega
    · rw [h]; simp
    · rw [Int.sign_eq_one_of_pos h]; omega
  have h1 := hsg (iv s a)
  have h2 := hsg (iv t b)
  have hp : -1 ≤ (iv s a).sign * cmpN (nv a) (nv b) ∧ (iv s a).sign * cmpN (nv a) (nv b) ≤ 1 := by
    have : (iv s a).sign = -1 ∨ (iv s a).sign = 0 ∨ (iv s a).sign = 1 := by omega
    rcases this with h | h | h <;> rw [h] <;> omega
  refine meets_of_vc Tryz.func95 (by kernel_rfl) rfl (by kernel_rfl) (Nat.le_of_ble_eq_true rfl) ?_
  refine box_rule (Reads.fact (d := I s a) qM) fun p hp' => ?_
  refine box_rule (Reads.fact (d := I t b) qM) fun q hq' => ?_
  refine draw_rule [0, 2, 1, 3, 4, 5] [0, 1, 2, 3, 4, 5] (by kernel_rfl) (by kernel_rfl) ?_
  refine load_box (d := I s a) 1 rfl hp' rfl (load_I _ _) fun y1 => ?_
  refine load_box (d := I t b) 0 rfl hq' rfl (load_I _ _) fun y2 => ?_
  refine call_fn (zsign_meets y1 s a ha la) (Seals.refl _ _) qS ?_
  rintro _ _ _ ⟨rfl, rfl, rfl⟩
  refine call_fn (zsign_meets y2 t b hb lb) (Seals.refl _ _) qS ?_
  rintro _ _ _ ⟨rfl, rfl, rfl⟩
  refine cmp_split _ rfl (fun hlt => ?_) (fun hlt => ?_)
  · rw [if_pos hlt] at hc
    exact fin ⟨rfl, rfl, congrArg (Value.int .i64) hc⟩ (Seals.trans (Seals.drop 0 _ _) (Seals.trans (Seals.drop 0 _ _) (Seals.nil _ _)))
  · rw [if_neg hlt] at hc
    refine cmp_split _ rfl (fun hgt => ?_) (fun hgt => ?_)
    · rw [if_pos (by omega)] at hc
      exact fin ⟨rfl, rfl, congrArg (Value.int .i64) hc⟩ (Seals.trans (Seals.drop 0 _ _) (Seals.trans (Seals.drop 0 _ _) (Seals.nil _ _)))
    · rw [if_neg (by omega)] at hc
      refine field_box 1 rfl hp' ?_
      refine load_box_field 1 rfl (Part.right (Part.refl _)) (load_L _) fun u1 => ?_
      refine field_box 0 rfl hq' ?_
      refine load_box_field 0 rfl (Part.right (Part.refl _)) (load_L _) fun u2 => ?_
      refine call_fn (cmp_meets u1 u2 a b ha hb) (Seals.refl _ _) qS ?_
      rintro _ _ _ ⟨rfl, rfl, rfl⟩
      refine ar rfl qI ?_
      exact fin ⟨rfl, rfl, congrArg (Value.int .i64) hc⟩ (Seals.trans (Seals.drop 0 _ _) (Seals.trans (Seals.drop 0 _ _) (Seals.nil _ _)))
theorem zCmpSJ (v w : Value) (x y : Bool × List Nat) (hx : Lim x.2) (hy : Lim y.2) (lx : x.2.length ≤ 137438953472) (ly : y.2.length ≤ 137438953472) :
    Meets Tryz.prog 95 [v, w] [(v, J x), (w, J y)] (fun r os fs => os = [] ∧ fs = [] ∧ r = .int .i64 (jv x - jv y).sign) := zCmpSW v w x.1 y.1 x.2 y.2 hx hy lx ly
theorem zCmpSZ (v w : Value) (x y : Int) (a b : Nat) (hx : sz x a) (hy : sz y b) (ha : a ≤ 137438953472) (hb : b ≤ 137438953472) :
    Meets Tryz.prog 95 [v, w] [(v, zd x), (w, zd y)] (fun r os fs => os = [] ∧ fs = [] ∧ r = .int .i64 (x - y).sign) := by
  have h := zCmpSJ v w (cn x) (cn y) (Lim_lims _) (Lim_lims _) (Nat.le_trans hx.len ha) (Nat.le_trans hy.len hb)
  rw [jv_cn, jv_cn] at h
  exact h
open Go.RowKit
def ptr0 (r o : Nat) : Value := .pointer (some ⟨r, o, none⟩)
theorem field_ptr {P : Program} {t : TypeId} {k off r o : Nat} {os : List Own} {fs : List Fact} {K : Cont} [ht : TFld P t k off] (k' : K (ptr0 r (o + off)) os fs) : FieldAddrK P t (ptr0 r o) k os fs K :=
  ⟨fun _ _ hw => ⟨_, fs, fun w' _ => val_run (fieldAt_run ht r o w'), k', hw⟩⟩
def cells4 (a b c d : Value) : Dat := .cat (.one a) (.cat (.one b) (.cat (.one c) (.one d)))
def own4 (p : Value) (a b c d : Value) : Own := own1 p 4 1 fun _ => cells4 a b c d
def nth4 (a b c d : Value) : Nat → Value
  | 0 => a
  | 1 => b
  | 2 => c
  | _ => d
theorem RdC.four {S : Nat → Prop} {w : World} {a b c d : Value} {cs : List Value} : RdC S w (cells4 a b c d) cs ↔ cs = [a, b, c, d] ∧ a.oneCell' = true ∧ b.oneCell' = true ∧ c.oneCell' = true ∧ d.oneCell' = true := by
  constructor
  · rintro ⟨c1, c2, rfl, ⟨rfl, h1⟩, c3, c4, rfl, ⟨rfl, h2⟩, c5, c6, rfl, ⟨rfl, h3⟩, rfl, h4⟩
    exact ⟨rfl, h1, h2, h3, h4⟩
  · rintro ⟨rfl, h1, h2, h3, h4⟩
    exact ⟨[a], [b, c, d], rfl, ⟨rfl, h1⟩, [b], [c, d], rfl, ⟨rfl, h2⟩, [c], [d], rfl, ⟨rfl, h3⟩, rfl, h4⟩
theorem ptr_e (r o : Nat) : ptr0 r o = eptr (ptr0 r 0) o := by simp [ptr0, eptr, add_none]
theorem load4 {P : Program} {t : TypeId} {r o : Nat} {a b c d : Value} {os : List Own} {fs : List Fact} {K : Cont} [ht : TOne P t] (pos k : Nat) (h : nthOwn os pos = some (own4 (ptr0 r 0) a b c d)) (ho : o = k) (hk : k < 4)
    (k' : K (nth4 a b c d k) os fs) : LoadK P t (ptr0 r o) os fs K := by
  subst ho
  rw [ptr_e]
  have hc : o = 0 ∨ o = 1 ∨ o = 2 ∨ o = 3 := by omega
  rcases hc with rfl | rfl | rfl | rfl
  · exact load_box_field_one (e := fun _ => cells4 a b c d) pos h (Part.left (Part.refl _)) k'
  · exact load_box_field_one (e := fun _ => cells4 a b c d) pos h (Part.right (a := .one a) (Part.left (Part.refl _))) k'
  · exact load_box_field_one (e := fun _ => cells4 a b c d) pos h (Part.right (a := .one a) (Part.right (a := .one b) (Part.left (Part.refl _)))) k'
  · exact load_box_field_one (e := fun _ => cells4 a b c d) pos h (Part.right (a := .one a) (Part.right (a := .one b) (Part.right (a := .one c) (Part.refl _)))) k'
theorem store_cell {P : Program} {ty : TypeId} {x : Value} {r k size : Nat} {e : Nat → Dat} {d' : Dat} {os : List Own} {fs : List Fact} {K : Cont} (pos : Nat) (h : nthOwn os pos = some (own1 (ptr0 r 0) size 1 e)) (hk : k < size) (hx : x.oneCell' = true) (ht : (P.info? ty).map (·.size) = some 1)
    (hd : ∀ S w cs, RdC S w (e 0) cs → RdC S w d' (cs.set k x)) (k' : K undef (setOwn os pos (own1 (ptr0 r 0) size 1 fun _ => d')) fs) : StoreK P ty (ptr0 r k) x os fs K := by
  refine ⟨fun G w hw => ?_⟩
  have hov := hw.own _ (nthOwn_mem h) 0 Nat.zero_lt_one
  obtain ⟨r', cap, hr⟩ := hov.row Nat.zero_lt_one
  have hrr : r' = r := by have := hr.blk; simp [own1, ptr0, vblk] at this; exact this.symm
  subst hrr
  obtain ⟨b1, b2, b3, cur, t, b4, b5, b6⟩ := hr.row
  obtain ⟨cs, c1, c2, c3⟩ := b6 0 Nat.zero_lt_one
  have hcap : 1 ≤ cap := b2
  have hfit : k + [x].length ≤ cur.size := by
    have : 1 * size ≤ cap * size := Nat.mul_le_mul_right _ hcap
    rw [b5]; simp only [List.length_cons, List.length_nil]
    have hs : (own1 (ptr0 r' 0) size 1 e).size = size := rfl
    rw [hs]; omega
  rw [show ptr0 r' k = .pointer (some ⟨r', k, none⟩) from rfl, unt_run (run_storeVar (cs := [x]) (cells_one hx) (fun u hu => by rw [List.mem_singleton.1 hu]; exact hx) (by simpa using ht) b4 hfit)]
  refine ⟨_, _, k', ?_⟩
  have hhas : (own1 (ptr0 r' 0) size 1 e).has r' := ⟨0, Nat.zero_lt_one, hr.blk⟩
  refine hw.step h rfl rfl rfl (by simp) (fun q hq hno => setRow_other w r' q _ fun e' => hno (e' ▸ hhas)) (fun b hb => .inl hb) (fun a b c ha hb _ _ => by
    have ha' : a < 1 := ha
    have hb' : b < 1 := hb
    omega) fun mono y hy => ?_
  have hy0 : y = 0 := by have : y < 1 := hy; omega
  subst hy0
  have hs : (own1 (ptr0 r' 0) size 1 e).size = size := rfl
  have hc1 : cap = 1 := by
    rcases hov with ⟨h1, h2⟩ | ⟨q, cap', h1, h2⟩ | ⟨q, h1, h2, h3⟩ | ⟨h1, _⟩
    · simp [own1, ptr0] at h1
    · simp [own1, ptr0] at h1
    · have : q = r' := by simp [own1, ptr0] at h1; exact h1.symm
      subst this
      obtain ⟨_, _, _, cur', t', q4, q5, _⟩ := h3
      rw [b4] at q4
      simp only [Option.some.injEq, Obj.cells.injEq] at q4
      obtain ⟨rfl, _⟩ := q4
      rw [q5] at b5
      exact (Nat.eq_of_mul_eq_mul_right (show 0 < (own1 (ptr0 q 0) size 1 e).size by rw [hs]; omega) b5).symm
    · simp [own1] at h1
  subst hc1
  refine .inr (.inr (.inl ⟨r', rfl, rfl, b1, Nat.le_refl _, b3, _, t, setRow_heap w r' cur _ t _ b4, ?_, fun i hi => ?_⟩))
  · simp only [List.size_toArray, List.length_append, List.length_take, List.length_drop, Array.length_toList, List.length_cons, List.length_nil] at hfit ⊢
    rw [b5] at hfit ⊢
    show _ = 1 * size
    simp only [hs] at hfit ⊢
    omega
  · have hi0 : i = 0 := by omega
    subst hi0
    have hm := mono _ cs c1
    refine ⟨cs.set k x, hd _ _ _ hm, by rw [List.length_set, c2]; rfl, fun j hj => ?_⟩
    rw [List.getElem?_toArray, seg_get _ _ _ _ (by simpa using hfit)]
    have hj' : j < size := hj
    have c3' := c3 j hj'
    rw [hs] at *
    simp only [Nat.zero_mul, Nat.zero_add, List.length_cons, List.length_nil] at *
    by_cases hjk : j = k
    · subst hjk
      rw [if_pos ⟨Nat.le_refl _, by omega⟩, Nat.sub_self]
      simp [List.getElem?_set, c2]
      exact hj'
    · rw [if_neg (by omega), Array.getElem?_toList, c3', List.getElem?_set_ne (by omega)]
theorem store4 {P : Program} {ty : TypeId} {x : Value} {r o : Nat} {a b c d : Value} {os : List Own} {fs : List Fact} {K : Cont} (pos k : Nat) (h : nthOwn os pos = some (own4 (ptr0 r 0) a b c d)) (ho : o = k) (hk : k < 4) (hx : x.oneCell' = true) (ht : (P.info? ty).map (·.size) = some 1)
    (k' : K undef (setOwn os pos (own4 (ptr0 r 0) (if k = 0 then x else a) (if k = 1 then x else b) (if k = 2 then x else c) (if k = 3 then x else d))) fs) : StoreK P ty (ptr0 r o) x os fs K := by
  subst ho
  refine store_cell (e := fun _ => cells4 a b c d) (d' := cells4 (if o = 0 then x else a) (if o = 1 then x else b) (if o = 2 then x else c) (if o = 3 then x else d)) pos h hk hx ht (fun S w cs hcs => ?_) k'
  obtain ⟨rfl, h1, h2, h3, h4⟩ := RdC.four.1 hcs
  have hc : o = 0 ∨ o = 1 ∨ o = 2 ∨ o = 3 := by omega
  rcases hc with rfl | rfl | rfl | rfl
  · exact RdC.four.2 ⟨rfl, hx, h2, h3, h4⟩
  · exact RdC.four.2 ⟨rfl, h1, hx, h3, h4⟩
  · exact RdC.four.2 ⟨rfl, h1, h2, hx, h4⟩
  · exact RdC.four.2 ⟨rfl, h1, h2, h3, hx⟩
class TPtr (P : Program) (t : TypeId) : Prop where
  und : ∃ e, P.underlying t = some (.pointer e)
theorem run_equal_ptr_nil {P : Program} {t : TypeId} (ht : TPtr P t) (a : Option Addr) (w : World) : (Op.equal t (.pointer a) (.pointer none)).run P w = .ok a.isNone w := by
  obtain ⟨e, hu⟩ := ht.und
  have h : ∀ d, (Op.equalIn (d + 1) t (.pointer a) (.pointer none)).run P w = .ok a.isNone w := fun d => by
    rw [Op.equalIn, Sem.run_bind, run_underlying hu]
    cases a <;> rfl
  exact h 9999
theorem eq_ptr {P : Program} {t : TypeId} [ht : TPtr P t] {x y : Operand} {a : Option Addr} {os : List Own} {fs : List Fact} {K : Cont} (k : K (.bool a.isNone) os fs) : BinK P .eql t x y (.pointer a) (.pointer none) os fs K := by
  have hrun : ∀ w', (do eqGuard .eql t x y (.pointer a) (.pointer none); binOp .eql t (.pointer a) (.pointer none) : Sem Value).run P w' = .ok (.bool a.isNone) w' := fun w' => by
    have h : (binOp .eql t (.pointer a) (.pointer none)) = (do pure (.bool (← Op.equal t (.pointer a) (.pointer none)))) := rfl
    have hg : (eqGuard .eql t x y (.pointer a) (.pointer none)).run P w' = .ok () w' := rfl
    rw [Sem.run_bind, hg, Result.andThen_ok, h, Sem.run_bind, run_equal_ptr_nil ht, Result.andThen_ok, Sem.run_pure]
  exact .mk <| det_pure (.bool a.isNone) hrun k
end Go.Proofs.YtjebljkoiaojaaaGreat
namespace Go.Proofs.YtjebljkoiaojaaaGreat
def pot (m : Nat) (b : Mx) : Nat → Nat
  | 0 => 1
  | n + 1 => pot m b n * (dm m b (n + 1)).toNat
theorem pot_pos {m n : Nat} {b : Mx} (h : Ind m n b) : ∀ t, t ≤ n → 0 < pot m b t
  | 0, _ => Nat.one_pos
  | t + 1, ht => Nat.mul_pos (pot_pos h t (by omega)) (by have := h (t + 1) ht; omega)
theorem pot_congr {m : Nat} {b b' : Mx} : ∀ {t : Nat}, (∀ s, s ≤ t → dm m b' s = dm m b s) → pot m b' t = pot m b t
  | 0, _ => rfl
  | t + 1, h => by rw [pot, pot, pot_congr fun s hs => h s (by omega), h (t + 1) (Nat.le_refl _)]
theorem pot_less {m n : Nat} {b b' : Mx} {k : Nat} (h : Ind m n b) (hk : 1 ≤ k) (hs : ∀ s, s ≠ k → s ≤ n → dm m b' s = dm m b s) (hlt : (dm m b' k).toNat < (dm m b k).toNat) : ∀ t, k ≤ t → t ≤ n → pot m b' t < pot m b t
  | 0, h1, _ => by omega
  | t + 1, h1, h2 => by
    rw [pot, pot]
    by_cases e : k = t + 1
    · rw [← e, pot_congr fun s hs' => hs s (by omega) (by omega)]
      exact Nat.mul_lt_mul_of_pos_left hlt (pot_pos h t (by omega))
    · rw [hs (t + 1) (by omega) h2]
      exact Nat.mul_lt_mul_of_pos_right (pot_less h hk hs hlt t (by omega) (by omega)) (by have := h (t + 1) h2; omega)
section
variable {m n : Nat} {b u : Mx} {k : Nat}
theorem far_less (h : Ind m n b) (hk : 1 ≤ k) (hn : k < n) (hf : ¬ farL m b k) : (dm m (swb b (k - 1)) k).toNat < (dm m b k).toNat := by
  obtain ⟨p, rfl⟩ : ∃ p, k = p + 1 := ⟨k - 1, by omega⟩
  rw [Nat.add_sub_cancel, dm_swb h hn (by omega), if_pos rfl]
  have e := dd h hn
  have h1 := h (p + 1) (by omega)
  have h2 := dd_pos h hn
  unfold farL at hf
  rw [Nat.add_sub_cancel] at hf
  generalize mi (gr m b) p (p + 1) (p + 1) = x at *
  generalize hA : dm m b (p + 1) = a at *
  have h3 : 4 * (a * x) < 3 * (a * a) := by
    rw [e]
    have : dm m b (p + 1 + 1) * dm m b p = dm m b p * dm m b (p + 2) := Int.mul_comm _ _
    omega
  have h4 : a * x < a * a := by
    have := Int.mul_pos h1 h2
    have := Int.mul_pos h1 h1
    omega
  have h5 : x < a := Int.lt_of_mul_lt_mul_left h4 (by omega)
  omega
theorem lrun_total : ∀ (μ : Nat) (b u : Mx) (k : Nat), 1 ≤ k → Ind m n b → pot m b (n - 1) * (n + 1) + (n - k) ≤ μ → ∃ f R, lrun m n f b u k = some R
  | μ, b, u, k, hk, h, hμ => by
    by_cases hn : n ≤ k
    · exact ⟨1, (b, u), by rw [lrun, if_pos hn]⟩
    · obtain ⟨w, ws⟩ := redr_full (u := u) (show k < n by omega) h
      have hp : pot m (redr m k k b u).1 (n - 1) = pot m b (n - 1) := pot_congr fun s hs => w.d s (by omega)
      have hpp := pot_pos h (n - 1) (by omega)
      have h0 : 0 < μ := by
        have : 1 * (n + 1) ≤ pot m b (n - 1) * (n + 1) := Nat.mul_le_mul_right _ hpp
        omega
      obtain ⟨ν, rfl⟩ : ∃ ν, μ = ν + 1 := ⟨μ - 1, by omega⟩
      by_cases hf : farL m (redr m k k b u).1 k
      · obtain ⟨f, R, e⟩ := lrun_total ν (redr m k k b u).1 (redr m k k b u).2 (k + 1) (by omega) w.ind (by rw [hp]; omega)
        exact ⟨f + 1, R, by rw [lrun, if_neg hn, if_pos hf]; exact e⟩
      · have hl := far_less w.ind hk (by omega) hf
        have hq : pot m (swb (redr m k k b u).1 (k - 1)) (n - 1) < pot m b (n - 1) := by
          rw [← hp]
          refine pot_less w.ind hk (fun s hs h1 => ?_) hl (n - 1) (by omega) (by omega)
          rw [dm_swb w.ind (by omega) h1, if_neg (by omega)]
        obtain ⟨f, R, e⟩ := lrun_total ν (swb (redr m k k b u).1 (k - 1)) (swb (redr m k k b u).2 (k - 1)) (max 1 (k - 1)) (by omega) (w.ind.swb (by omega)) (by
          have h1 : (pot m (swb (redr m k k b u).1 (k - 1)) (n - 1) + 1) * (n + 1) ≤ pot m b (n - 1) * (n + 1) := Nat.mul_le_mul_right _ hq
          rw [Nat.succ_mul] at h1
          omega)
        exact ⟨f + 1, R, by rw [lrun, if_neg hn, if_neg hf]; exact e⟩
  termination_by μ => μ
def Rdc (m : Nat) (b : Mx) (k : Nat) : Prop := ∀ i, 1 ≤ i → i < k → Size m b i 0 ∧ farL m b i
theorem Rdc.way {b' : Mx} (h : Rdc m b k) (w : Way m n k b b') (hk : k < n) : Rdc m b' k := fun i h1 h2 => by
  obtain ⟨s, f⟩ := h i h1 h2
  refine ⟨fun t h3 h4 => ?_, ?_⟩
  · rw [w.d _ (by omega), w.l i t h4 (by omega) (by omega)]; exact s t h3 h4
  · unfold farL at *
    rw [w.d _ (by omega), w.d _ (by omega), w.d _ (by omega), w.l i (i - 1) (by omega) (by omega) (by omega)]; exact f
theorem Rdc.next (h : Rdc m b k) (hs : Size m b k 0) (hf : farL m b k) : Rdc m b (k + 1) := fun i h1 h2 => by
  by_cases e : i = k
  · rw [e]; exact ⟨hs, hf⟩
  · exact h i h1 (by omega)
theorem Rdc.swb (h : Rdc m b k) (hi : Ind m n b) (hk : 1 ≤ k) (hn : k < n) : Rdc m (swb b (k - 1)) (max 1 (k - 1)) := fun i h1 h2 => by
  obtain ⟨s, f⟩ := h i h1 (by omega)
  have hd : ∀ t, t < k → dm m (Go.Proofs.YtjebljkoiaojaaaGreat.swb b (k - 1)) t = dm m b t := fun t ht => by rw [dm_swb hi (by omega) (by omega), if_neg (by omega)]
  have hl : ∀ t, t < i → lm m (Go.Proofs.YtjebljkoiaojaaaGreat.swb b (k - 1)) i t = lm m b i t := fun t ht => by
    rw [lm_swb hi (by omega) ht (by omega), if_neg (by omega), if_neg (by omega), if_neg (by omega), sx_low (by omega)]
  refine ⟨fun t h3 h4 => ?_, ?_⟩
  · rw [hd _ (by omega), hl t h4]; exact s t h3 h4
  · unfold farL at *
    rw [hd _ (by omega), hd _ (by omega), hd _ (by omega), hl _ (by omega)]; exact f
theorem lrun_red : ∀ {f : Nat} {b u : Mx} {k : Nat} {R : Mx × Mx}, lrun m n f b u k = some R → 1 ≤ k → k ≤ n ∨ n = 0 → Ind m n b → Rdc m b k → Rdc m R.1 n ∧ Ind m n R.1 ∧ dm m R.1 n = dm m b n
  | 0, b, u, k, R, h, _, _, _, _ => by simp [lrun] at h
  | f + 1, b, u, k, R, h, hk, hkn, hi, hr => by
    rw [lrun] at h
    split at h
    · rename_i hn
      obtain rfl : (b, u) = R := by simpa using h
      exact ⟨fun i h1 h2 => hr i h1 (by omega), hi, rfl⟩
    · rename_i hn
      obtain ⟨w, ws⟩ := redr_full (u := u) (show k < n by omega) hi
      have hr' := hr.way w (by omega)
      split at h
      · rename_i hf
        obtain ⟨a1, a2, a3⟩ := lrun_red h (by omega) (by omega) w.ind (hr'.next ws hf)
        exact ⟨a1, a2, by rw [a3, w.d n (Nat.le_refl _)]⟩
      · obtain ⟨a1, a2, a3⟩ := lrun_red h (by omega) (by omega) (w.ind.swb (by omega)) (hr'.swb w.ind hk (by omega))
        exact ⟨a1, a2, by rw [a3, dm_swb w.ind (by omega) (Nat.le_refl _), if_neg (by omega), w.d n (Nat.le_refl _)]⟩
theorem lrun_mono : ∀ {f : Nat} {b u : Mx} {k : Nat} {R : Mx × Mx}, lrun m n f b u k = some R → ∀ e, lrun m n (f + e) b u k = some R
  | 0, b, u, k, R, h, e => by simp [lrun] at h
  | f + 1, b, u, k, R, h, e => by
    rw [Nat.add_right_comm, lrun]
    rw [lrun] at h
    split at h
    · rename_i hn; rw [if_pos hn]; exact h
    · rename_i hn
      rw [if_neg hn]
      split at h
      · rename_i hf; rw [if_pos hf]; exact lrun_mono h e
      · rename_i hf; rw [if_neg hf]; exact lrun_mono h e
theorem lrun_one {f g : Nat} {R S : Mx × Mx} (h : lrun m n f b u k = some R) (h' : lrun m n g b u k = some S) : R = S := by
  have h1 := lrun_mono h g
  have h2 := lrun_mono h' f
  rw [Nat.add_comm, h2] at h1
  simpa using h1.symm
end
end Go.Proofs.YtjebljkoiaojaaaGreat
namespace Go.Proofs.YtjebljkoiaojaaaGreat
theorem sz_of_sq {x : Int} {e : Nat} (h : sz (x * x) (e + e)) : sz x e := by
  unfold sz at *
  rw [Int.natAbs_mul, Nat.pow_add] at h
  exact Nat.lt_of_not_le fun hle => absurd h (Nat.not_lt.2 (Nat.mul_le_mul hle hle))
theorem sz_le {x y : Int} {e : Nat} (h0 : 0 ≤ x) (h : x ≤ y) (hy : sz y e) : sz x e := by
  unfold sz at *; omega
theorem ip_sz {m k l : Nat} {u v : Nat → Int} (hu : ∀ c, c < m → sz (u c) k) (hv : ∀ c, c < m → sz (v c) l) (hm : m < 18446744073709551616) : sz (ip m u v) (k + l + 1) :=
  isum_sz (fun c hc => (hu c hc).mul (hv c hc)) hm
structure LB (a : Mx) (m n D K : Nat) (b u : Mx) : Prop where
  ind : Ind m n b
  dz : ∀ t, t ≤ n → sz (dm m b t) D
  bz : ∀ i c, i < n → c < m → sz (b i c) K
  ua : ∀ i c, i < n → c < m → mm n u a i c = b i c
  un : det n u = 1 ∨ det n u = -1
section
variable {a b u : Mx} {m n D K k j : Nat}
theorem LB.gz (h : LB a m n D K b u) (hm : m < 18446744073709551616) {i i' : Nat} (hi : i < n) (hi' : i' < n) : sz (gr m b i i') (K + K + 1) :=
  ip_sz (fun c hc => h.bz i c hi hc) (fun c hc => h.bz i' c hi' hc) hm
theorem LB.lz (h : LB a m n D K b u) (hm : m < 18446744073709551616) {i : Nat} (hi : i < n) (hj : j < i) : sz (lm m b i j) (D + K + 1) := by
  refine sz_of_sq ?_
  have h1 := cauchy m (wv m b j) (b i)
  rw [wv_wv, wv_row] at h1
  rw [mi_symm (gr_symm m b)] at h1
  have h2 := ((h.dz j (by omega)).mul (h.dz (j + 1) (by omega))).mul (h.gz hm hi hi)
  exact sz_le (sq_nn _) h1 (h2.mono (by omega))
theorem rnd_sz {x y : Int} {e : Nat} (hx : sz x e) (hy : 0 < y) : sz (rnd x y) (e + 1) := by
  have h1 := rnd_near (x := x) hy
  have h2 : (rnd x y).natAbs ≤ x.natAbs + 1 := by
    have h3 : rnd x y * y ≤ x + y := by omega
    have h4 : x - y ≤ rnd x y * y := by omega
    have h5 : rnd x y ≤ x.natAbs + 1 := by
      refine Int.le_of_not_gt fun hgt => ?_
      have : (x.natAbs + 2 : Int) * y ≤ rnd x y * y := Int.mul_le_mul_of_nonneg_right (by omega) (by omega)
      have h6 : (x.natAbs : Int) * 1 ≤ x.natAbs * y := Int.mul_le_mul_of_nonneg_left (by omega) (by omega)
      have h7 : (x.natAbs + 2 : Int) * y = x.natAbs * y + 2 * y := by grind
      omega
    have h6 : - (x.natAbs + 1 : Int) ≤ rnd x y := by
      refine Int.le_of_not_gt fun hgt => ?_
      have h8 : rnd x y * y ≤ - (x.natAbs + 2 : Int) * y := Int.mul_le_mul_of_nonneg_right (by omega) (by omega)
      have h6 : (x.natAbs : Int) * 1 ≤ x.natAbs * y := Int.mul_le_mul_of_nonneg_left (by omega) (by omega)
      have h7 : - (x.natAbs + 2 : Int) * y = - (x.natAbs * y) - 2 * y := by grind
      omega
    omega
  unfold sz at *
  rw [Nat.pow_succ]
  have : 0 < 18446744073709551616 ^ e := Nat.pow_pos (by decide)
  omega
theorem LB.qz (h : LB a m n D K b u) (hm : m < 18446744073709551616) (hk : k < n) (hj : j < k) : sz (rnd (lm m b k j) (dm m b (j + 1))) (D + K + 2) :=
  rnd_sz (h.lz hm hk hj) (h.ind _ (by omega))
theorem det_redq {v : Mx} {q : Int} (hk : k < n) (hj : j < k) : det n (redq v k j q) = det n v := by
  have h1 := (det_form n).addRow (A := v) hk (show j < n by omega) (by omega) (-q) (v j) (fun _ _ => rfl) (v k)
  rw [rw_self] at h1
  rw [← h1]
  refine det_congr fun i c _ _ => ?_
  unfold redq rw'
  split
  · show v k c - q * v j c = v k c + -q * v j c
    rw [Int.neg_mul]; omega
  · rfl
theorem mm_redq {v w : Mx} {q : Int} (i c : Nat) : mm n (redq v k j q) w i c = redq (mm n v w) k j q i c := by
  unfold mm redq
  split
  · rw [isum_congr (g' := fun s => 1 * (v k s * w s c) + (-q) * (v j s * w s c)) fun s _ => by grind, isum_lin]; grind
  · rfl
theorem LB.redq (h : LB a m n D K b u) (hk : k < n) (hj : j < k) {q : Int} (hq : sz q (D + K + 2)) : LB a m n D (D + K + K + 3) (redq b k j q) (redq u k j q) :=
  ⟨h.ind.redq hj, fun t ht => by rw [dm_redq h.ind hj ht]; exact h.dz t ht, fun i c hi hc => by
    unfold Go.Proofs.YtjebljkoiaojaaaGreat.redq
    split
    · exact (sz_sub ((h.bz k c hk hc).mono (show K ≤ D + K + K + 2 by omega)) ((hq.mul (h.bz j c (by omega) hc)).mono (by omega)))
    · exact (h.bz i c hi hc).mono (by omega), fun i c hi hc => by
    rw [mm_redq]
    unfold Go.Proofs.YtjebljkoiaojaaaGreat.redq
    split
    · rw [h.ua k c hk hc, h.ua j c (by omega) hc]
    · exact h.ua i c hi hc, by rw [det_redq hk hj]; exact h.un⟩
theorem det_swb {v : Mx} {p : Nat} (hp : p + 1 < n) : det n (swb v p) = - det n v := by
  rw [← (det_form n).swap (A := v) (r := p) (s := p + 1) (by omega) hp (by omega)]
  refine det_congr fun i c _ _ => ?_
  unfold swb sx rw'
  by_cases h1 : i = p + 1
  · rw [if_neg (by omega), if_pos h1, if_pos h1]
  · by_cases h2 : i = p
    · rw [if_pos h2, if_neg h1, if_pos h2]
    · rw [if_neg h2, if_neg h1, if_neg h1, if_neg h2]
theorem dz_swb (h : Ind m n b) (hk : 1 ≤ k) (hn : k < n) (hf : ¬ farL m b k) (hd : ∀ t, t ≤ n → sz (dm m b t) D) (t : Nat) (ht : t ≤ n) : sz (dm m (swb b (k - 1)) t) D := by
  by_cases e : t = k
  · subst e
    have h1 := far_less h hk hn hf
    have h2 := h.swb (p := t - 1) (by omega) t ht
    have h3 := hd t ht
    have h4 := h t ht
    exact sz_le (by omega) (by omega) h3
  · rw [dm_swb h (by omega) ht, if_neg (by omega)]; exact hd t ht
theorem LB.swb (h : LB a m n D K b u) (hk : 1 ≤ k) (hn : k < n) (hf : ¬ farL m b k) : LB a m n D K (swb b (k - 1)) (swb u (k - 1)) :=
  ⟨h.ind.swb (by omega), dz_swb h.ind hk hn hf h.dz, fun i c hi hc => h.bz _ c (sx_lt (by omega) hi) hc, fun i c hi hc => h.ua _ c (sx_lt (by omega) hi) hc, by
    rw [det_swb (by omega)]
    rcases h.un with e | e <;> rw [e] <;> decide⟩
theorem row_sz (h : Ind m n b) (hd : ∀ t, t ≤ n → sz (dm m b t) D) (hk : k < n) (hs : Size m b k 0) : ∀ (e t : Nat), t + e = k → sz (mi (gr m b) t k k) ((e + 1) * (D + 1)) ∧ 0 ≤ mi (gr m b) t k k
  | 0, t, ht => by
    have : t = k := by omega
    subst this
    have h1 := hd (t + 1) (by omega)
    have h2 := h (t + 1) (by omega)
    unfold dm at h1 h2
    rw [dG_succ] at h1 h2
    exact ⟨h1.mono (by omega), by omega⟩
  | e + 1, t, ht => by
    obtain ⟨i1, i2⟩ := row_sz h hd hk hs e (t + 1) (by omega)
    have st := mi_step (G := gr m b) (k := t) (h.ne (by omega)) k k
    rw [mi_symm (gr_symm m b) t t k] at st
    have hp1 := h (t + 1) (by omega)
    have hp0 := h t (by omega)
    have hd0 := hd t (by omega)
    have hd1 := hd (t + 1) (by omega)
    have hsz := hs t (by omega) (by omega)
    have hl : lm m b k t = mi (gr m b) t k t := rfl
    rw [hl] at hsz
    unfold dm at hp1 hp0 hd0 hd1 hsz
    generalize mi (gr m b) t k t = l at *
    generalize mi (gr m b) t k k = x at *
    generalize mi (gr m b) (t + 1) k k = y at *
    generalize dG (gr m b) (t + 1) = d1 at *
    generalize dG (gr m b) t = d0 at *
    have hll : l * l ≤ d1 * d1 := by
      have h1 : 0 ≤ (d1 - l) * (d1 + l) := Int.mul_nonneg (by omega) (by omega)
      have h2 : (d1 - l) * (d1 + l) = d1 * d1 - l * l := by grind
      omega
    have hx : d1 * x ≤ d1 * (d0 * y + d1) := by
      have h1 : d1 * x = d0 * y + l * l := by omega
      have h2 : 0 ≤ d0 * y := Int.mul_nonneg (by omega) i2
      have h3 : 1 * (d0 * y) ≤ d1 * (d0 * y) := Int.mul_le_mul_of_nonneg_right (by omega) h2
      have h4 : d1 * (d0 * y + d1) = d1 * (d0 * y) + d1 * d1 := by grind
      omega
    have hx' : x ≤ d0 * y + d1 := Int.le_of_mul_le_mul_left hx hp1
    have hx0 : 0 ≤ x := by
      have h1 : d1 * x = d0 * y + l * l := by omega
      have h2 : 0 ≤ d0 * y := Int.mul_nonneg (by omega) i2
      have h3 := sq_nn l
      refine Int.le_of_not_gt fun hgt => ?_
      have := Int.mul_neg_of_pos_of_neg hp1 hgt
      omega
    refine ⟨sz_le hx0 hx' ?_, hx0⟩
    have h1 := hd0.mul i1
    have h2 := sz_sub (h1.mono (show D + (e + 1) * (D + 1) ≤ D + (e + 1) * (D + 1) from Nat.le_refl _)) ((hd1.neg).mono (show D ≤ D + (e + 1) * (D + 1) by omega))
    rw [show d0 * y - -d1 = d0 * y + d1 by omega] at h2
    refine h2.mono ?_
    rw [Nat.succ_mul (e + 1)]; omega
theorem ip_part {u : Nat → Int} : ∀ {m c : Nat}, c < m → u c * u c ≤ ip m u u
  | m + 1, c, h => by
    have h1 : ip (m + 1) u u = ip m u u + u m * u m := rfl
    have h2 := ip_nn m u
    have h3 := sq_nn (u m)
    by_cases e : c = m
    · rw [e, h1]; omega
    · have := ip_part (u := u) (m := m) (c := c) (by omega)
      rw [h1]; omega
theorem row_bz (h : Ind m n b) (hd : ∀ t, t ≤ n → sz (dm m b t) D) (hk : k < n) (hs : Size m b k 0) {c : Nat} (hc : c < m) : sz (b k c) ((k + 1) * (D + 1)) := by
  have h1 := (row_sz h hd hk hs k 0 (by omega)).1
  rw [mi_none] at h1
  exact sz_of_sq (sz_le (sq_nn _) (ip_part hc) (h1.mono (by omega)))
theorem LB.uz (h : LB a m n D K b u) (hm : m < 18446744073709551616) (hn : n < 1048576) {A : Nat} (ha : ∀ i c, i < n → c < m → sz (a i c) A) (hd : dm m a n ≠ 0) {i j : Nat} (hi : i < n) (hj : j < n) : sz (u i j) (K + A + 1 + ((A + A + 2) * n + 1) + 1) := by
  obtain ⟨n, rfl⟩ : ∃ n', n = n' + 1 := ⟨n - 1, by omega⟩
  let G : Mx := gr m a
  have hG : ∀ x y, x < n + 1 → y < n + 1 → sz (G x y) (A + A + 1) := fun x y hx hy => ip_sz (fun c hc => ha x c hx hc) (fun c hc => ha y c hy hc) hm
  have h1 : ∀ x, x < n + 1 → isum (fun s => u i s * G s x) (n + 1) = ip m (b i) (a x) := fun x hx => by
    unfold ip
    rw [isum_congr (g := fun c => b i c * a x c) (g' := fun c => isum (fun s => u i s * (a s c * a x c)) (n + 1)) fun c hc => by
      rw [← h.ua i c hi hc]; unfold mm; rw [← isum_mul_right]; exact isum_congr fun s _ => Int.mul_assoc _ _ _]
    rw [isum_swap]
    refine isum_congr fun s _ => ?_
    rw [isum_mul]; rfl
  have hdet : det (n + 1) G ≠ 0 := by
    have e : dm m a (n + 1) = det (n + 1) G := by
      unfold dm dG
      rw [← det_rev (n + 1) G]
      refine det_congr fun x y hx hy => ?_
      show G ((dn (n + 1)).getD x 0) ((dn (n + 1)).getD y 0) = G _ _
      rw [dn_get hx, dn_get hy]
    rw [← e]; exact hd
  have h2 : det (n + 1) G * u i j = isum (fun x => ip m (b i) (a x) * adj n G x j) (n + 1) := by
    rw [isum_congr (g' := fun x => isum (fun s => u i s * (G s x * adj n G x j)) (n + 1)) fun x hx => by
      rw [← h1 x hx, ← isum_mul_right]; exact isum_congr fun s _ => Int.mul_assoc _ _ _]
    rw [isum_swap, isum_congr (g' := fun s => u i s * (if s = j then det (n + 1) G else 0)) fun s hs => by
      rw [isum_mul, ← mul_adj G hs hj]; rfl]
    rw [isum_one (r := j) hj fun s _ hsj => by rw [if_neg hsj, Int.mul_zero], if_pos rfl, Int.mul_comm]
  have h3 : sz (det (n + 1) G * u i j) (K + A + 1 + ((A + A + 2) * (n + 1) + 1) + 1) := by
    rw [h2]
    refine isum_sz (fun x hx => ?_) (by omega)
    refine (ip_sz (fun c hc => h.bz i c hi hc) (fun c hc => ha x c hx hc) hm).mul ?_
    unfold adj
    refine sg_sz _ ((det_sz n (by omega) fun p q hp hq => hG _ _ (sk_lt hp) (sk_lt hq)).mono ?_)
    rw [show A + A + 1 + 1 = A + A + 2 from rfl, Nat.mul_succ]; omega
  unfold sz at *
  rw [Int.natAbs_mul] at h3
  have h4 : 1 * (u i j).natAbs ≤ (det (n + 1) G).natAbs * (u i j).natAbs := Nat.mul_le_mul_right _ (by omega)
  omega
theorem LB.full (h : LB a m n D K b u) (hk : k < n) (hK : n * (D + 1) ≤ K) {b' u' : Mx} (w : Way m n k b b') (ws : Size m b' k 0) (hrow : ∀ i c, i ≠ k → b' i c = b i c) (hua : ∀ i c, i < n → c < m → mm n u' a i c = b' i c) (hun : det n u' = 1 ∨ det n u' = -1) : LB a m n D K b' u' :=
  have hd : ∀ t, t ≤ n → sz (dm m b' t) D := fun t ht => by rw [w.d t ht]; exact h.dz t ht
  ⟨w.ind, hd, fun i c hi hc => by
    by_cases e : i = k
    · rw [e]; exact (row_bz w.ind hd hk ws hc).mono (Nat.le_trans (Nat.mul_le_mul_right _ (by omega)) hK)
    · rw [hrow i c e]; exact h.bz i c hi hc, hua, hun⟩
end
open Go.RowKit
abbrev Jx := Nat → Nat → Bool × List Nat
def famJ (vs : Nat → Value) (R C : Nat) (x : Jx) : Own := ⟨R, vs, 2, fun _ => C, fun i k => J (x i k)⟩
theorem load_fj {vs : Nat → Value} {R C : Nat} {x : Jx} {os : List Own} {fs : List Fact} {K : Cont} (pos i j : Nat) (h : nthOwn os pos = some (famJ vs R C x)) (hi : i < R) (hj : j < C) (a : Bool × List Nat) (ha : x i j = a)
    (k : ∀ u, K u os ((u, J a) :: fs)) : LoadK Tryz.prog 26 (eptr (vs i) (j * 2)) os fs K := by
  subst ha
  exact load_own (o := famJ vs R C x) pos i h hi j 0 rfl hj (Part.refl _) (load_J _) k
theorem index_fj {kk : IntKind} {z : Int} {vs : Nat → Value} {R C : Nat} {x : Jx} {os : List Own} {fs : List Fact} {K : Cont} (pos i : Nat) (h : nthOwn os pos = some (famJ vs R C x)) (hi : i < R) (hs : isSl (vs i)) (j : Nat) (hz : z = (j : Int)) (hj : j < C)
    (k : K (eptr (vs i) (j * 2)) os fs) : IndexAddrK Tryz.prog 22 (vs i) (.int kk z) os fs K :=
  index_own (o := famJ vs R C x) pos i h hi (fun r => by obtain ⟨a, n, c, e⟩ := hs; show vs i ≠ _; rw [e]; simp) j hz hj k
theorem store_fj {u : Value} {vs : Nat → Value} {R C : Nat} {x : Jx} {os : List Own} {fs : List Fact} {K : Cont} (pos i j : Nat) (h : nthOwn os pos = some (famJ vs R C x)) (hi : i < R) (hj : j < C) (w : Bool × List Nat) (x' : Jx)
    (hu : Reads os fs u (J w)) (hx : ∀ a b, a < R → b < C → x' a b = if a = i ∧ b = j then w else x a b) (k : K undef (setOwn os pos (famJ vs R C x')) fs) :
    StoreK Tryz.prog 26 (eptr (vs i) (j * 2)) u os fs K :=
  store_fam (d := J w) pos i (famJ vs R C x') h hi j hj rfl (by kernel_rfl) hu rfl rfl (fun a ha => ⟨rfl, rfl, fun b hb => by
    show J (x' a b) = if a = i ∧ b = j then J w else J (x a b)
    rw [hx a b ha hb]; split <;> rfl⟩) k
theorem Seals.fjcong {vs vs' : Nat → Value} {R C : Nat} {x x' : Jx} {os : List Own} {fs : List Fact} (pos : Nat) (h : nthOwn os pos = some (famJ vs R C x)) (s : Nat → Nat) (hs : ∀ i, i < R → s i < R ∧ vs' i = vs (s i) ∧ ∀ k, k < C → x' i k = x (s i) k)
    (hinj : ∀ i j, i < R → j < R → s i = s j → i = j) : Seals os fs (setOwn os pos (famJ vs' R C x')) fs :=
  Seals.re (o' := famJ vs' R C x') pos h s rfl (fun i hi => ⟨(hs i hi).1, (hs i hi).2.1, rfl, fun k hk => by
    show J _ = J _
    rw [(hs i hi).2.2 k hk]⟩) hinj
theorem len_fj {t e' ty : TypeId} {size' : Nat} {vs : Nat → Value} {R C : Nat} {x : Jx} {os : List Own} {fs : List Fact} {K : Cont} [ht : TSl Tryz.prog t e' size'] (pos i : Nat)
    (h : nthOwn os pos = some (famJ vs R C x)) (hi : i < R) (hs : isSl (vs i)) (k : C ≤ 9223372036854775807 → K (.int .i64 C) os fs) : LenK Tryz.prog [t] ty (vs i) os fs K := by
  obtain ⟨a, m, c, hv⟩ := hs
  refine ⟨fun G w hw => ?_⟩
  have key : ∃ (a' : Option Addr) (c' : Nat), vs i = .slice a' C c' ∧ C ≤ 9223372036854775807 := by
    rcases hw.own _ (nthOwn_mem h) i hi with ⟨h1, h2⟩ | ⟨r, cap, h1, b1, b2, b3, _⟩ | ⟨r, h1, _⟩ | ⟨_, _, _, _, _, _, ⟨r, _, _, h1, _⟩ | ⟨r, _, _, _, _, _, _, h1, _⟩⟩
    rotate_right
    · have h1' : vs i = _ := h1
      rw [hv] at h1'; simp at h1'
    rotate_right
    · have h1' : vs i = _ := h1
      rw [hv] at h1'; simp at h1'
    · have h2' : C = 0 := h2
      exact ⟨none, 0, by rw [h2']; exact h1, by omega⟩
    · have b2' : C ≤ cap := b2
      exact ⟨some ⟨r, 0, none⟩, cap, h1, by unfold maxLen at b3; omega⟩
    · have h1' : vs i = _ := h1
      rw [hv] at h1'; simp at h1'
  obtain ⟨a', c', e, hC⟩ := key
  rw [e]
  exact (len_val (P := Tryz.prog) (t := t) (ty := ty) (a := a') (n := C) (c := c') (os := os) (fs := fs) (K := K) (k hC)).out G w hw
def rv (r : Row) : Nat → Int := fun c => jv (r.getD c z0)
theorem rv_sz {r : Row} {k : Nat} (h : Fit k r) (c : Nat) : sz (rv r c) k := sz_jv (h.get c).1 (h.get c).2
theorem dot_call {K : Cont} {os : List Own} {fs : List Fact} (pos i j : Nat) {vs : Nat → Value} {R C : Nat} {x : Jx} (h : nthOwn os pos = some (famJ vs R C x)) (hi : i < R) (hj : j < R) (hs : ∀ i, i < R → isSl (vs i)) {k : Nat} (hx : ∀ i c, i < R → c < C → Lim (x i c).2 ∧ (x i c).2.length ≤ k) (hk : k + k + 2 ≤ 137438953472) (lm : C ≤ 1073741824)
    (kk : ∀ r, K r os ((r, zd (ip C (fun c => jv (x i c)) (fun c => jv (x j c)))) :: fs)) : CallK Tryz.prog false (.func (.func 113) #[] #[]) [vs i, vs j] os fs K := by
  have hz : ∀ i c, i < R → c < C → sz (jv (x i c)) k := fun i c h1 h2 => sz_jv (hx i c h1 h2).1 (hx i c h1 h2).2
  have hsz : ∀ t, t ≤ C → sz (ip t (fun c => jv (x i c)) (fun c => jv (x j c))) (k + k + 1) := fun t ht => ip_sz (fun c hc => hz i c hi (by omega)) (fun c hc => hz j c hj (by omega)) (by omega)
  have hstep : ∀ t, ip (t + 1) (fun c => jv (x i c)) (fun c => jv (x j c)) = ip t (fun c => jv (x i c)) (fun c => jv (x j c)) + jv (x i t) * jv (x j t) := fun t => rfl
  have h0 : ip 0 (fun c => jv (x i c)) (fun c => jv (x j c)) = 0 := rfl
  generalize hP : (fun t => ip t (fun c => jv (x i c)) (fun c => jv (x j c))) = P
  have hsz' : ∀ t, t ≤ C → sz (P t) (k + k + 1) := fun t ht => by rw [← hP]; exact hsz t ht
  have hstep' : ∀ t, P (t + 1) = P t + jv (x i t) * jv (x j t) := fun t => by rw [← hP]; exact hstep t
  have h0' : P 0 = 0 := by rw [← hP]; exact h0
  have hC : ip C (fun c => jv (x i c)) (fun c => jv (x j c)) = P C := by rw [← hP]
  rw [hC] at kk
  have hvi := hs i hi
  have hvj := hs j hj
  refine call_inline Tryz.func113 (by kernel_rfl) rfl (by kernel_rfl) (Nat.le_of_ble_eq_true rfl) ?_
  refine alloc_rule (d := I false []) fun o ho => ?_
  refine build0 (da := .one (.bool false)) (db := U (lims 0)) (fun S w => ⟨[.bool false], [.slice none 0 0], rfl, rd_false S w, by rw [lims_zero]; exact rd_nil S w 1 _⟩) fun zz => ?_
  refine alloc_rule (d := I false []) fun s hs' => ?_
  refine store_box (d := zd 0) 0 rfl hs' rfl (by kernel_rfl) ?_ ?_; exact Reads.fact (d := zd 0) qM
  refine len_fj (pos + 2) i h hi hvi fun _ => ?_
  refine loop_rule (X := Nat) (fun t => ([(1, vs j), (4, o), (5, s), (9, vs i), (10, .int .i64 (C : Nat)), (11, .int .i64 (t : Nat))], own1 s 2 1 (fun _ => zd (P t)) :: own1 o 2 1 (fun _ => I false []) :: os, fs))
    (fun t => t ≤ C) (fun t => C - t) rfl ?_ ?_
  · exact again 0 (Nat.zero_le _) trivial qF (Seals.trans (Seals.box0 (by rw [h0']; rfl)) (Seals.sub qD))
  · rintro t ht
    refine cmp_split _ rfl (fun hc => ?_) (fun hc => ?_)
    · have htC : t < C := by omega
      have f1 := hx i t hi htC
      have f2 := hx j t hj htC
      refine index_fj (pos + 2) i h hi hvi t rfl htC ?_
      refine load_fj (pos + 2) i t h hi htC (x i t) rfl fun x1 => ?_
      refine alloc_rule (d := I false []) fun q hq => ?_
      refine store_box (d := J (x i t)) 0 rfl hq rfl (by kernel_rfl) ?_ ?_; exact Reads.fact qM
      refine draw_rule [0, 1, 2, 3, 4, 5, 6, 7, 8] [0, 1, 2, 3, 4, 5, 6, 7, 8] (by kernel_rfl) (by kernel_rfl) ?_
      refine load_box (d := zd (P t)) 1 rfl hs' rfl (load_I _ _) fun x2 => ?_
      refine load_box (d := J (x i t)) 0 rfl hq rfl (load_J _) fun x3 => ?_
      refine index_fj (pos + 3) j h hj hvj t rfl htC ?_
      refine load_fj (pos + 3) j t h hj htC (x j t) rfl fun x4 => ?_
      refine call_fn (zMulJ x3 x4 (x i t) (x j t) f1.1 (by omega) f2.1 (by omega)) (Seals.refl _ _) qS ?_
      rintro x5 _ _ ⟨rfl, rfl⟩
      refine call_fn (zAddZ x2 x5 _ _ (k + k + 1) (k + k) (hsz' t ht) ((hz i t hi htC).mul (hz j t hj htC)) (by omega) (by omega)) (Seals.refl _ _) qS ?_
      rintro x6 _ _ ⟨rfl, rfl⟩
      refine store_box (d := zd (P t + jv (x i t) * jv (x j t))) 1 rfl hs' rfl (by kernel_rfl) ?_ ?_; exact Reads.fact qM
      refine ar rfl qI ?_
      exact again (t + 1) (by omega) (by simp only; omega) qF (Seals.trans (Seals.drop 0 _ _) (Seals.trans (Seals.box0 (by rw [hstep']; rfl)) (Seals.sub qD)))
    · have htC : t = C := by omega
      subst htC
      refine load_box (d := zd (P t)) 0 rfl hs' rfl (load_I _ _) fun x2 => ?_
      refine call_fn (zNormZ x2 _ (k + k + 1) (hsz' _ (Nat.le_refl _)) (by omega)) (Seals.refl _ _) qS ?_
      rintro x3 _ _ ⟨rfl, rfl⟩
      refine store_box (d := zd (P t)) 1 rfl ho rfl (by kernel_rfl) ?_ ?_; exact Reads.fact qM
      refine load_box (d := zd (P t)) 1 rfl ho rfl (load_I _ _) fun r => ?_
      exact fin (kk r) (Seals.trans (Seals.drop 0 _ _) (Seals.trans (Seals.drop 0 _ _) (Seals.sub (fun F hF => by
        rcases List.mem_cons.1 hF with rfl | hF
        · exact List.Mem.head _
        · repeat (first | exact hF | apply List.Mem.tail)))))
theorem lquot_meets (v w : Value) (x y : Int) (a b : Nat) (hx : sz x a) (hy : sz y b) (ha : a ≤ 137438953472) (hb : b ≤ 137438953472) (h0 : y ≠ 0) :
    Meets Tryz.prog 114 [v, w] [(v, zd x), (w, zd y)] (fun r os fs => os = [] ∧ fs = [(r, zd (x / y))]) := by
  refine meets_of_vc Tryz.func114 (by kernel_rfl) rfl (by kernel_rfl) (Nat.le_of_ble_eq_true rfl) ?_
  refine box_rule (Reads.fact (d := zd x) qM) fun p hp => ?_
  refine box_rule (Reads.fact (d := zd y) qM) fun q hq => ?_
  refine alloc_rule (d := I false []) fun o ho => ?_
  refine load_box (d := zd x) 2 rfl hp rfl (load_I _ _) fun u1 => ?_
  refine load_box (d := zd y) 1 rfl hq rfl (load_I _ _) fun u2 => ?_
  refine call_fn (zDivModZ u1 u2 x y a b hx hy ha hb h0) (Seals.refl _ _) qS ?_
  rintro _ _ _ ⟨rfl, z, m, rfl, rfl⟩
  refine alloc_rule (d := I false []) fun c1 h1 => ?_
  refine alloc_rule (d := I false []) fun c2 h2 => ?_
  refine store_box (d := zd (x / y)) 1 rfl h1 rfl (by kernel_rfl) ?_ ?_; exact Reads.fact qM
  refine store_box (d := zd (x % y)) 0 rfl h2 rfl (by kernel_rfl) ?_ ?_; exact Reads.fact qM
  refine load_box (d := zd (x / y)) 1 rfl h1 rfl (load_I _ _) fun u3 => ?_
  refine store_box (d := zd (x / y)) 2 rfl ho rfl (by kernel_rfl) ?_ ?_; exact Reads.fact qM
  refine load_box (d := zd (x / y)) 2 rfl ho rfl (load_I _ _) fun r => ?_
  refine fin ⟨rfl, rfl⟩ (Seals.trans (Seals.trans (Seals.trans (Seals.trans (Seals.trans (Seals.drop 0 _ _) (Seals.drop 0 _ _)) (Seals.drop 0 _ _)) (Seals.drop 0 _ _)) (Seals.drop 0 _ _)) (Seals.sub qS))
open Go.RowKit
theorem append_one {P : Program} {t ty e : TypeId} {size bytes n : Nat} {a b : Value} {el el' e' : Nat → Dat} {os : List Own} {fs : List Fact} {K : Cont} [ht : TSl P t e size] [he : TEl P e size bytes] (pos : Nat)
    (h : nthOwn os pos = some (own1 a size n el)) (hs : isSl a) (hb : Knw os fs b (.sl size 1 el')) (he' : ∀ i, i < n + 1 → e' i = if i < n then el i else el' 0) (hm : n + 1 ≤ 9223372036854775807) (hby : (n + 1) * bytes ≤ 140737488355328)
    (k : ∀ v, isSl v → K v (setOwn os pos (own1 v size (n + 1) e')) fs) : AppendK P [t, t] ty a b os fs K := by
  have h1 := append_rule (P := P) (t := t) (ty := ty) (K := fun u os' fs' => ∃ os'' fs'', Seals os' fs' os'' fs'' ∧ K u os'' fs'') pos h hs hb hm hby
  refine ⟨Dyn.sealed (h1 fun v hv => ⟨_, _, ?_, k v hv⟩).out⟩
  have h2 := Seals.own_cong (hsz := .inl he.pos) (os := setOwn os pos (own1 v size (n + 1) (fun i => if i < n then el i else el' (i - n)))) (fs := fs) pos (n' := n + 1) e' (nth_set h) rfl fun i hi => by
    rw [he' i hi]
    by_cases hin : i < n
    · rw [if_pos hin, if_pos hin]
    · rw [if_neg hin, if_neg hin, show i - n = 0 by omega]
  rw [set_set] at h2
  exact h2
def rvm (m : List Row) : Mx := fun i => rv (m.getD i [])
def gmx (m : List Row) : Mx := gr (m.getD 0 []).length (rvm m)
theorem gmx_sz {m : List Row} {k : Nat} (hf : Fits k m) (lc : (m.getD 0 []).length ≤ 1048576) (i j : Nat) : sz (gmx m i j) (k + k + 1) :=
  ip_sz (fun c _ => rv_sz (hf.get i) c) (fun c _ => rv_sz (hf.get j) c) (by omega)
open Go.RowKit
def linD (m : List Row) : Int := det m.length (gmx m)
instance (m : List Row) (v : Row) : Decidable (lok m v) := inferInstanceAs (Decidable (_ ∧ _))
open Go.RowKit
instance iCWe1 : TFld Tryz.prog 104 0 0 := ⟨_, _, Tryz.underlying104, rfl, rfl, 1, by kernel_rfl⟩
instance iCWe2 : TFld Tryz.prog 104 1 2 := ⟨_, _, Tryz.underlying104, rfl, rfl, 0, by kernel_rfl⟩
instance iCWe3 : TFld Tryz.prog 104 2 3 := ⟨_, _, Tryz.underlying104, rfl, rfl, 0, by kernel_rfl⟩
instance iCWe4 : TFld Tryz.prog 102 0 0 := ⟨_, _, Tryz.underlying102, rfl, rfl, 0, by kernel_rfl⟩
instance iCWe5 : TFld Tryz.prog 102 1 1 := ⟨_, _, Tryz.underlying102, rfl, rfl, 0, by kernel_rfl⟩
instance iCWe6 : TPtr Tryz.prog 96 := ⟨⟨_, Tryz.underlying96⟩⟩
section
variable {P : Program} {t : TypeId} {r o : Nat} {a b c d : Value} {os : List Own} {fs : List Fact} {K : Cont}
theorem ld4b [ht : TOne P t] (pos : Nat) (h : nthOwn os pos = some (own4 (ptr0 r 0) a b c d)) (ho : o = 0) (k' : K a os fs) : LoadK P t (ptr0 r o) os fs K := load4 pos 0 h ho (by decide) k'
theorem ld4u [ht : TOne P t] (pos : Nat) (h : nthOwn os pos = some (own4 (ptr0 r 0) a b c d)) (ho : o = 1) (k' : K b os fs) : LoadK P t (ptr0 r o) os fs K := load4 pos 1 h ho (by decide) k'
theorem ld4d [ht : TOne P t] (pos : Nat) (h : nthOwn os pos = some (own4 (ptr0 r 0) a b c d)) (ho : o = 2) (k' : K c os fs) : LoadK P t (ptr0 r o) os fs K := load4 pos 2 h ho (by decide) k'
theorem ld4l [ht : TOne P t] (pos : Nat) (h : nthOwn os pos = some (own4 (ptr0 r 0) a b c d)) (ho : o = 3) (k' : K d os fs) : LoadK P t (ptr0 r o) os fs K := load4 pos 3 h ho (by decide) k'
end
structure BS where
  r : Nat
  vb : Value
  vu : Value
  vd : Value
  vl : Value
  sb : Nat → Value
  su : Nat → Value
  sl : Nat → Value
structure BS.ok (s : BS) (n : Nat) : Prop where
  vb : isSl s.vb
  vu : isSl s.vu
  vd : isSl s.vd
  vl : isSl s.vl
  sb : ∀ i, i < n → isSl (s.sb i)
  su : ∀ i, i < n → isSl (s.su i)
  sl : ∀ i, i < n → isSl (s.sl i)
abbrev famZ (vs : Nat → Value) (R C : Nat) (x : Mx) : Own := famJ vs R C fun i j => cn (x i j)
def bas (s : BS) (m n : Nat) (b u : Jx) (d : Nat → Int) (l : Mx) (os : List Own) : List Own :=
  own4 (ptr0 s.r 0) s.vb s.vu s.vd s.vl :: famJ s.sb n m b :: own1 s.vb 1 n (fun i => .one (s.sb i)) :: famJ s.su n n u :: own1 s.vu 1 n (fun i => .one (s.su i)) ::
    own1 s.vd 2 (n + 1) (fun i => zd (d i)) :: famZ s.sl n n l :: own1 s.vl 1 n (fun i => .one (s.sl i)) :: os
theorem load_fz {vs : Nat → Value} {R C : Nat} {x : Mx} {os : List Own} {fs : List Fact} {K : Cont} (pos i j : Nat) (h : nthOwn os pos = some (famZ vs R C x)) (hi : i < R) (hj : j < C)
    (k : ∀ u, K u os ((u, zd (x i j)) :: fs)) : LoadK Tryz.prog 26 (eptr (vs i) (j * 2)) os fs K := load_fj pos i j h hi hj (cn (x i j)) rfl k
theorem sz_add2 {x y : Int} {a b : Nat} (hx : sz x a) (hy : sz y b) : sz (x + y) (a + b + 1) := by
  have h := sz_sub (hx.mono (show a ≤ a + b by omega)) ((hy.neg).mono (show b ≤ a + b by omega))
  rw [show x - -y = x + y by omega] at h
  exact h
theorem sz_num (x : Int) (h : x.natAbs < 18446744073709551616) : sz x 1 := by unfold sz; simpa using h
theorem sgn_ge {x : Int} (h : 0 ≤ x.sign) : 0 ≤ x := by
  rcases Int.lt_trichotomy x 0 with e | e | e
  · rw [Int.sign_eq_neg_one_of_neg e] at h; omega
  · omega
  · omega
theorem sgn_ltW {x : Int} (h : ¬ 0 ≤ x.sign) : x < 0 := by
  rcases Int.lt_trichotomy x 0 with e | e | e
  · exact e
  · rw [e] at h; simp at h
  · rw [Int.sign_eq_one_of_pos e] at h; omega
def farN (d : Nat → Int) (l : Mx) (k : Nat) : Prop := 3 * (d k * d k) ≤ 4 * (d (k + 1) * d (k - 1) + l k (k - 1) * l k (k - 1))
instance (d : Nat → Int) (l : Mx) (k : Nat) : Decidable (farN d l k) := inferInstanceAs (Decidable (_ ≤ _))
theorem far_call {K : Cont} {os : List Own} {fs : List Fact} {s : BS} {m n : Nat} {b u : Jx} {d : Nat → Int} {l : Mx} (k D L : Nat) (h1k : 1 ≤ k) (hn : k < n) (hN : n ≤ 1048576) (hs : s.ok n) (hd : ∀ t, t ≤ n → sz (d t) D) (hl : ∀ i j, j < i → i < n → sz (l i j) L)
    (hD : D ≤ 1073741824) (hL : L ≤ 1073741824) (kk : K (.bool (decide (farN d l k))) (bas s m n b u d l os) fs) :
    CallK Tryz.prog false (.func (.func 73) #[] #[]) [ptr0 s.r 0, .int .i64 (k : Nat)] (bas s m n b u d l os) fs K := by
  have hd1 := hd (k + 1) (by omega)
  have hdm := hd (k - 1) (by omega)
  have hdk := hd k (by omega)
  have hlk := hl k (k - 1) (by omega) hn
  have hA : sz (d (k + 1) * d (k - 1) + l k (k - 1) * l k (k - 1)) (D + D + (L + L) + 1) := sz_add2 (hd1.mul hdm) (hlk.mul hlk)
  have f2 : (2 : Int) ^ far 2 = 4 := by decide
  have c1 := fun y => zShlZ y (d (k + 1) * d (k - 1) + l k (k - 1) * l k (k - 1)) 2 _ hA (by omega)
  rw [f2] at c1
  refine call_inline Tryz.func73 (by kernel_rfl) rfl (by kernel_rfl) (Nat.le_of_ble_eq_true rfl) ?_
  refine draw_join (X := Value) (fun z => ([(0, ptr0 s.r 0), (1, .int .i64 (k : Nat)), (4, .bool false), (5, z)], own1 z 2 1 (fun _ => zd (d (k + 1) * d (k - 1) + l k (k - 1) * l k (k - 1))) :: bas s m n b u d l os, fs)) isBox ?_ ?_
  ·
    refine draw_ord [0, 1, 2, 3, 4, 5, 6, 7, 8, 9, 10, 11, 12, 13, 14, 15, 16, 17, 18, 19, 20, 21, 22, 23, 24, 25, 26, 27, 28, 29, 30, 31, 32, 33, 34, 35, 36, 37, 38, 39, 40, 41, 42] (by kernel_rfl) ?_
    refine ord_split 16 41 (by kernel_rfl) (by kernel_rfl) (by kernel_rfl) ?_ ?_
    · refine ord_split 39 41 (by kernel_rfl) (by kernel_rfl) (by kernel_rfl) ?_ ?_
      · refine ord_split 40 41 (by kernel_rfl) (by kernel_rfl) (by kernel_rfl) ?_ ?_
        · refine ord_go [0, 1, 2, 3, 4, 5, 6, 7, 8, 9, 10, 11, 12, 13, 14, 15, 17, 18, 19, 20, 21, 22, 23, 24, 25, 26, 27, 28, 29, 30, 31, 32, 33, 34, 35, 36, 37, 38, 16, 39, 40, 41, 42] (by kernel_rfl) (by kernel_rfl) ?_
          refine field_ptr ?_
          refine ld4d 0 rfl rfl ?_
          refine ar rfl qI ?_
          refine index_elem 5 rfl hs.vd (k + 1) (by omega) (by omega) ?_
          refine load_elem' (d := zd (d (k + 1))) 5 rfl (k + 1) (by omega) rfl (load_I _ _) fun y1 => ?_
          refine field_ptr ?_
          refine ld4d 0 rfl rfl ?_
          refine ar rfl qI ?_
          refine index_elem 5 rfl hs.vd (k - 1) (by omega) (by omega) ?_
          refine load_elem' (d := zd (d (k - 1))) 5 rfl (k - 1) (by omega) rfl (load_I _ _) fun y2 => ?_
          refine field_ptr ?_
          refine ld4l 0 rfl rfl ?_
          refine index_elem 7 rfl hs.vl (k) (by omega) (by omega) ?_
          refine load_one_elem 7 rfl (k) (by omega) (u := s.sl (k)) rfl ?_
          refine ar rfl qI ?_
          refine index_fj 6 (k) rfl (by omega) (hs.sl (k) (by omega)) (k - 1) (by omega) (by omega) ?_
          refine load_fz 6 (k) (k - 1) rfl (by omega) (by omega) fun y3 => ?_
          refine field_ptr ?_
          refine ld4l 0 rfl rfl ?_
          refine index_elem 7 rfl hs.vl (k) (by omega) (by omega) ?_
          refine load_one_elem 7 rfl (k) (by omega) (u := s.sl (k)) rfl ?_
          refine ar rfl qI ?_
          refine index_fj 6 (k) rfl (by omega) (hs.sl (k) (by omega)) (k - 1) (by omega) (by omega) ?_
          refine load_fz 6 (k) (k - 1) rfl (by omega) (by omega) fun y4 => ?_
          refine call_fn (zMulZ y1 y2 (d (k + 1)) (d (k - 1)) D D hd1 hdm (by omega) (by omega)) (Seals.refl _ _) qS ?_
          rintro z1 _ _ ⟨rfl, rfl⟩
          refine call_fn (zMulZ y3 y4 (l k (k - 1)) (l k (k - 1)) L L hlk hlk (by omega) (by omega)) (Seals.refl _ _) qS ?_
          rintro z2 _ _ ⟨rfl, rfl⟩
          refine call_fn (zAddZ z1 z2 _ _ (D + D) (L + L) (hd1.mul hdm) (hlk.mul hlk) (by omega) (by omega)) (Seals.refl _ _) qS ?_
          rintro z3 _ _ ⟨rfl, rfl⟩
          refine alloc_rule (d := I false []) fun b1 h1 => ?_
          refine store_box (d := zd (d (k + 1) * d (k - 1) + l k (k - 1) * l k (k - 1))) 0 rfl h1 rfl (by kernel_rfl) (Reads.fact qM) ?_
          exact again b1 h1 trivial qF (Seals.trans (Seals.box0 rfl) (Seals.sub qD))
        · refine ord_go [0, 1, 2, 3, 4, 5, 6, 7, 8, 9, 10, 11, 12, 13, 14, 15, 17, 18, 19, 20, 21, 22, 23, 24, 25, 26, 27, 28, 29, 30, 31, 32, 33, 34, 35, 36, 37, 38, 16, 39, 41, 40, 42] (by kernel_rfl) (by kernel_rfl) ?_
          refine field_ptr ?_
          refine ld4d 0 rfl rfl ?_
          refine ar rfl qI ?_
          refine index_elem 5 rfl hs.vd (k + 1) (by omega) (by omega) ?_
          refine load_elem' (d := zd (d (k + 1))) 5 rfl (k + 1) (by omega) rfl (load_I _ _) fun y1 => ?_
          refine field_ptr ?_
          refine ld4d 0 rfl rfl ?_
          refine ar rfl qI ?_
          refine index_elem 5 rfl hs.vd (k - 1) (by omega) (by omega) ?_
          refine load_elem' (d := zd (d (k - 1))) 5 rfl (k - 1) (by omega) rfl (load_I _ _) fun y2 => ?_
          refine field_ptr ?_
          refine ld4l 0 rfl rfl ?_
          refine index_elem 7 rfl hs.vl (k) (by omega) (by omega) ?_
          refine load_one_elem 7 rfl (k) (by omega) (u := s.sl (k)) rfl ?_
          refine ar rfl qI ?_
          refine index_fj 6 (k) rfl (by omega) (hs.sl (k) (by omega)) (k - 1) (by omega) (by omega) ?_
          refine load_fz 6 (k) (k - 1) rfl (by omega) (by omega) fun y3 => ?_
          refine field_ptr ?_
          refine ld4l 0 rfl rfl ?_
          refine index_elem 7 rfl hs.vl (k) (by omega) (by omega) ?_
          refine load_one_elem 7 rfl (k) (by omega) (u := s.sl (k)) rfl ?_
          refine ar rfl qI ?_
          refine index_fj 6 (k) rfl (by omega) (hs.sl (k) (by omega)) (k - 1) (by omega) (by omega) ?_
          refine load_fz 6 (k) (k - 1) rfl (by omega) (by omega) fun y4 => ?_
          refine call_fn (zMulZ y1 y2 (d (k + 1)) (d (k - 1)) D D hd1 hdm (by omega) (by omega)) (Seals.refl _ _) qS ?_
          rintro z1 _ _ ⟨rfl, rfl⟩
          refine call_fn (zMulZ y3 y4 (l k (k - 1)) (l k (k - 1)) L L hlk hlk (by omega) (by omega)) (Seals.refl _ _) qS ?_
          rintro z2 _ _ ⟨rfl, rfl⟩
          refine alloc_rule (d := I false []) fun b1 h1 => ?_
          refine call_fn (zAddZ z1 z2 _ _ (D + D) (L + L) (hd1.mul hdm) (hlk.mul hlk) (by omega) (by omega)) (Seals.refl _ _) qS ?_
          rintro z3 _ _ ⟨rfl, rfl⟩
          refine store_box (d := zd (d (k + 1) * d (k - 1) + l k (k - 1) * l k (k - 1))) 0 rfl h1 rfl (by kernel_rfl) (Reads.fact qM) ?_
          exact again b1 h1 trivial qF (Seals.trans (Seals.box0 rfl) (Seals.sub qD))
      · refine ord_go [0, 1, 2, 3, 4, 5, 6, 7, 8, 9, 10, 11, 12, 13, 14, 15, 17, 18, 19, 20, 21, 22, 23, 24, 25, 26, 27, 28, 29, 30, 31, 32, 33, 34, 35, 36, 37, 38, 16, 41, 39, 40, 42] (by kernel_rfl) (by kernel_rfl) ?_
        refine field_ptr ?_
        refine ld4d 0 rfl rfl ?_
        refine ar rfl qI ?_
        refine index_elem 5 rfl hs.vd (k + 1) (by omega) (by omega) ?_
        refine load_elem' (d := zd (d (k + 1))) 5 rfl (k + 1) (by omega) rfl (load_I _ _) fun y1 => ?_
        refine field_ptr ?_
        refine ld4d 0 rfl rfl ?_
        refine ar rfl qI ?_
        refine index_elem 5 rfl hs.vd (k - 1) (by omega) (by omega) ?_
        refine load_elem' (d := zd (d (k - 1))) 5 rfl (k - 1) (by omega) rfl (load_I _ _) fun y2 => ?_
        refine field_ptr ?_
        refine ld4l 0 rfl rfl ?_
        refine index_elem 7 rfl hs.vl (k) (by omega) (by omega) ?_
        refine load_one_elem 7 rfl (k) (by omega) (u := s.sl (k)) rfl ?_
        refine ar rfl qI ?_
        refine index_fj 6 (k) rfl (by omega) (hs.sl (k) (by omega)) (k - 1) (by omega) (by omega) ?_
        refine load_fz 6 (k) (k - 1) rfl (by omega) (by omega) fun y3 => ?_
        refine field_ptr ?_
        refine ld4l 0 rfl rfl ?_
        refine index_elem 7 rfl hs.vl (k) (by omega) (by omega) ?_
        refine load_one_elem 7 rfl (k) (by omega) (u := s.sl (k)) rfl ?_
        refine ar rfl qI ?_
        refine index_fj 6 (k) rfl (by omega) (hs.sl (k) (by omega)) (k - 1) (by omega) (by omega) ?_
        refine load_fz 6 (k) (k - 1) rfl (by omega) (by omega) fun y4 => ?_
        refine call_fn (zMulZ y1 y2 (d (k + 1)) (d (k - 1)) D D hd1 hdm (by omega) (by omega)) (Seals.refl _ _) qS ?_
        rintro z1 _ _ ⟨rfl, rfl⟩
        refine alloc_rule (d := I false []) fun b1 h1 => ?_
        refine call_fn (zMulZ y3 y4 (l k (k - 1)) (l k (k - 1)) L L hlk hlk (by omega) (by omega)) (Seals.refl _ _) qS ?_
        rintro z2 _ _ ⟨rfl, rfl⟩
        refine call_fn (zAddZ z1 z2 _ _ (D + D) (L + L) (hd1.mul hdm) (hlk.mul hlk) (by omega) (by omega)) (Seals.refl _ _) qS ?_
        rintro z3 _ _ ⟨rfl, rfl⟩
        refine store_box (d := zd (d (k + 1) * d (k - 1) + l k (k - 1) * l k (k - 1))) 0 rfl h1 rfl (by kernel_rfl) (Reads.fact qM) ?_
        exact again b1 h1 trivial qF (Seals.trans (Seals.box0 rfl) (Seals.sub qD))
    · refine ord_go [0, 1, 2, 3, 4, 5, 6, 7, 8, 9, 10, 11, 12, 13, 14, 15, 17, 18, 19, 20, 21, 22, 23, 24, 25, 26, 27, 28, 29, 30, 31, 32, 33, 34, 35, 36, 37, 38, 41, 16, 39, 40, 42] (by kernel_rfl) (by kernel_rfl) ?_
      refine field_ptr ?_
      refine ld4d 0 rfl rfl ?_
      refine ar rfl qI ?_
      refine index_elem 5 rfl hs.vd (k + 1) (by omega) (by omega) ?_
      refine load_elem' (d := zd (d (k + 1))) 5 rfl (k + 1) (by omega) rfl (load_I _ _) fun y1 => ?_
      refine field_ptr ?_
      refine ld4d 0 rfl rfl ?_
      refine ar rfl qI ?_
      refine index_elem 5 rfl hs.vd (k - 1) (by omega) (by omega) ?_
      refine load_elem' (d := zd (d (k - 1))) 5 rfl (k - 1) (by omega) rfl (load_I _ _) fun y2 => ?_
      refine field_ptr ?_
      refine ld4l 0 rfl rfl ?_
      refine index_elem 7 rfl hs.vl (k) (by omega) (by omega) ?_
      refine load_one_elem 7 rfl (k) (by omega) (u := s.sl (k)) rfl ?_
      refine ar rfl qI ?_
      refine index_fj 6 (k) rfl (by omega) (hs.sl (k) (by omega)) (k - 1) (by omega) (by omega) ?_
      refine load_fz 6 (k) (k - 1) rfl (by omega) (by omega) fun y3 => ?_
      refine field_ptr ?_
      refine ld4l 0 rfl rfl ?_
      refine index_elem 7 rfl hs.vl (k) (by omega) (by omega) ?_
      refine load_one_elem 7 rfl (k) (by omega) (u := s.sl (k)) rfl ?_
      refine ar rfl qI ?_
      refine index_fj 6 (k) rfl (by omega) (hs.sl (k) (by omega)) (k - 1) (by omega) (by omega) ?_
      refine load_fz 6 (k) (k - 1) rfl (by omega) (by omega) fun y4 => ?_
      refine alloc_rule (d := I false []) fun b1 h1 => ?_
      refine call_fn (zMulZ y1 y2 (d (k + 1)) (d (k - 1)) D D hd1 hdm (by omega) (by omega)) (Seals.refl _ _) qS ?_
      rintro z1 _ _ ⟨rfl, rfl⟩
      refine call_fn (zMulZ y3 y4 (l k (k - 1)) (l k (k - 1)) L L hlk hlk (by omega) (by omega)) (Seals.refl _ _) qS ?_
      rintro z2 _ _ ⟨rfl, rfl⟩
      refine call_fn (zAddZ z1 z2 _ _ (D + D) (L + L) (hd1.mul hdm) (hlk.mul hlk) (by omega) (by omega)) (Seals.refl _ _) qS ?_
      rintro z3 _ _ ⟨rfl, rfl⟩
      refine store_box (d := zd (d (k + 1) * d (k - 1) + l k (k - 1) * l k (k - 1))) 0 rfl h1 rfl (by kernel_rfl) (Reads.fact qM) ?_
      exact again b1 h1 trivial qF (Seals.trans (Seals.box0 rfl) (Seals.sub qD))
  rintro bx hbx
  refine draw_rule [0, 3, 4, 5, 6, 7, 8, 9, 10, 11, 12, 13, 14, 15, 16, 1, 2, 17, 18, 19, 20, 21] [0, 1, 2, 3, 4, 5, 6, 7, 8, 9, 10, 11, 12, 13, 14, 15, 16, 17, 18, 19, 20, 21] (by kernel_rfl) (by kernel_rfl) ?_
  refine load_box (d := zd (d (k + 1) * d (k - 1) + l k (k - 1) * l k (k - 1))) 0 rfl hbx rfl (load_I _ _) fun y1 => ?_
  refine field_ptr ?_
  refine ld4d 1 rfl rfl ?_
  refine index_elem 6 rfl hs.vd (k) (by omega) (by omega) ?_
  refine load_elem' (d := zd (d (k))) 6 rfl (k) (by omega) rfl (load_I _ _) fun y2 => ?_
  refine field_ptr ?_
  refine ld4d 1 rfl rfl ?_
  refine index_elem 6 rfl hs.vd (k) (by omega) (by omega) ?_
  refine load_elem' (d := zd (d (k))) 6 rfl (k) (by omega) rfl (load_I _ _) fun y3 => ?_
  refine call_fn (c1 y1) (Seals.refl _ _) qS ?_
  rintro z1 _ _ ⟨rfl, rfl⟩
  refine call_fn (zof_meets 3 (by decide) (by decide)) (Seals.refl _ _) qS ?_
  rintro z2 _ _ ⟨rfl, rfl⟩
  refine call_fn (zMulZ y2 y3 (d k) (d k) D D hdk hdk (by omega) (by omega)) (Seals.refl _ _) qS ?_
  rintro z3 _ _ ⟨rfl, rfl⟩
  refine call_fn (zMulZ z2 z3 3 (d k * d k) 1 (D + D) (sz_num 3 (by decide)) (hdk.mul hdk) (by decide) (by omega)) (Seals.refl _ _) qS ?_
  rintro z4 _ _ ⟨rfl, rfl⟩
  refine call_fn (zCmpSZ z1 z4 _ _ (D + D + (L + L) + 1 + 1) (1 + (D + D)) (hA.mul (sz_num 4 (by decide))) ((sz_num 3 (by decide)).mul (hdk.mul hdk)) (by omega) (by omega)) (Seals.refl _ _) qS ?_
  rintro _ _ _ ⟨rfl, rfl, rfl⟩
  refine cmp_split _ rfl (fun hc => ?_) (fun hc => ?_)
  · have e : farN d l k := by have := sgn_ge hc; unfold farN; omega
    rw [decide_eq_true e] at kk
    exact fin kk (Seals.trans (Seals.drop 0 _ _) (Seals.sub qD))
  · have e : ¬ farN d l k := by have := sgn_ltW hc; unfold farN; omega
    rw [decide_eq_false e] at kk
    exact fin kk (Seals.trans (Seals.drop 0 _ _) (Seals.sub qD))
open Go.RowKit
theorem info_sll : (Tryz.prog.info? 39).map (fun i => (i.zero, i.size, i.bytes)) = some (some (.slice none 0 0), 1, 24) := by kernel_rfl
instance iCWf1 : TEl Tryz.prog 39 1 24 := tel info_sll rfl (by decide)
instance iCWf2 : TSl Tryz.prog 105 39 1 := ⟨Tryz.underlying105, by kernel_rfl⟩
theorem zSubJZ (v w : Value) (x : Bool × List Nat) (y : Int) (a : Nat) (hx : Lim x.2) (lx : x.2.length ≤ 137438953472) (hy : sz y a) (ha : a ≤ 137438953472) :
    Meets Tryz.prog 96 [v, w] [(v, J x), (w, zd y)] (fun r os fs => os = [] ∧ fs = [(r, zd (jv x - y))]) := by
  have h := zsub_meets v w x.1 (cn y).1 x.2 (cn y).2 hx (Lim_lims _) lx (Nat.le_trans hy.len ha)
  have e : iv (cn y).1 (cn y).2 = y := iv_zd y
  rw [e] at h
  exact h
def Rp (R C : Nat) (x : Jx) (B : Mx) (K : Nat) : Prop := ∀ i c, i < R → c < C → jv (x i c) = B i c ∧ Lim (x i c).2 ∧ (x i c).2.length ≤ K
def mid (x : Jx) (k j : Nat) (q : Int) (c : Nat) : Jx := fun i a => if i = k ∧ a < c then cn (jv (x k a) - q * jv (x j a)) else x i a
theorem mid_zero (x : Jx) (k j : Nat) (q : Int) : mid x k j q 0 = x := by
  funext i a; unfold mid; rw [if_neg (by omega)]
theorem redq_zero (B : Mx) (k j : Nat) : redq B k j 0 = B := by
  funext i c; unfold redq; split
  · rename_i e; rw [e]; omega
  · rfl
def selb {α : Type} (x y : α) : Nat → α
  | 0 => x
  | _ => y
def selu {α : Type} (x y : α) : Nat → α
  | 0 => x
  | 1 => x
  | _ => y
theorem less_call {K : Cont} {F : Own} {os : List Own} {fs : List Fact} {s : BS} {m n : Nat} {b u : Jx} {d : Nat → Int} {l : Mx} (v : Value) (q : Int) (k j Q B : Nat) (hk : k < n) (hj : j < k) (hN : n ≤ 1048576) (hM : m ≤ 1048576) (hs : s.ok n) {Bm Um : Mx}
    (hb : Rp n m b Bm B) (hu : Rp n n u Um B) (hq : sz q Q) (hQ : Q ≤ 1073741824) (hB : B ≤ 1073741824) (hv : (v, zd q) ∈ fs)
    (kk : ∀ r, K r (F :: bas s m n (mid b k j q m) (mid u k j q n) d l os) fs) :
    CallK Tryz.prog false (.func (.func 116) #[] #[]) [ptr0 s.r 0, .int .i64 (k : Nat), .int .i64 (j : Nat), v] (F :: bas s m n b u d l os) fs K := by
  have hj : j < n := by omega
  have hjk : j ≠ k := by omega
  have z1 := hs.vb
  have z2 := hs.vu
  have z3 := hs.sb
  have z4 := hs.su
  refine call_inline Tryz.func116 (by kernel_rfl) rfl (by kernel_rfl) (Nat.le_of_ble_eq_true rfl) ?_
  refine box_rule (Reads.fact (d := zd q) hv) fun qb hqb => ?_
  refine draw_rule [0, 1, 2, 3, 4, 5, 6, 7, 10, 8, 9] [0, 1, 2, 3, 4, 5, 6, 7, 8, 9, 10] (by kernel_rfl) (by kernel_rfl) ?_
  refine field_ptr ?_
  refine ld4b 2 rfl rfl ?_
  refine field_ptr ?_
  refine ld4u 2 rfl rfl ?_
  refine buildSlice_fact (size := 1) (n := 2) [s.vb, s.vu] [.one s.vb, .one s.vu] rfl rfl (by decide) (by decide) ⟨Reads.one hs.vb.one, rfl, Reads.one hs.vu.one, rfl, trivial⟩ fun lt => ?_
  refine len_fact (n := 2) qM fun _ => ?_
  refine loop_rule (X := Nat) (fun t => ([(0, ptr0 s.r 0), (1, .int .i64 (k : Nat)), (2, .int .i64 (j : Nat)), (7, qb), (19, lt), (20, .int .i64 2), (21, .int .i64 (t : Nat))],
      own1 qb 2 1 (fun _ => zd q) :: F :: bas s m n (selb b (mid b k j q m) t) (selu u (mid u k j q n) t) d l os, (lt, .sl 1 2 fun i => [Dat.one s.vb, Dat.one s.vu].getD i (.one undef)) :: fs))
      (fun t => t ≤ 2) (fun t => 2 - t) rfl ?_ ?_
  · exact again 0 (Nat.zero_le _) trivial qF (Seals.sub qD)
  · rintro t ht
    refine cmp_split _ rfl (fun hc => ?_) (fun hc => ?_)
    · have htt : t = 0 ∨ t = 1 := by omega
      rcases htt with rfl | rfl
      ·
        refine index_fact (n := 2) qM 0 rfl (by decide) fun a1 => ?_
        refine load_one (u := s.vb) qM ?_
        refine index_elem 4 rfl z1 k rfl (by omega) ?_
        refine load_one_elem 4 rfl k (by omega) (u := s.sb k) rfl ?_
        refine len_fj 3 k rfl hk (z3 k hk) fun _ => ?_
        refine loop_rule (X := Nat) (fun c => ([(0, ptr0 s.r 0), (1, .int .i64 (k : Nat)), (2, .int .i64 (j : Nat)), (7, qb), (9, s.vb), (19, lt), (20, .int .i64 2), (21, .int .i64 (0 : Nat)), (29, .int .i64 (m : Nat)), (30, .int .i64 (c : Nat))],
            own1 qb 2 1 (fun _ => zd q) :: F :: bas s m n (mid b k j q c) (u) d l os, (lt, .sl 1 2 fun i => [Dat.one s.vb, Dat.one s.vu].getD i (.one undef)) :: fs))
            (fun c => c ≤ m) (fun c => m - c) rfl ?_ ?_
        · exact again 0 (Nat.zero_le _) trivial qF (by rw [mid_zero]; exact Seals.sub qD)
        · rintro c hcm
          refine cmp_split _ rfl (fun hlt => ?_) (fun hlt => ?_)
          have hcC : c < m := by omega
          refine draw_rule [0, 1, 2, 3, 4, 5, 6, 7, 8, 9, 10, 11, 12, 13, 14, 15, 16, 17, 18, 19, 20, 21, 22, 23] [0, 1, 2, 3, 4, 5, 6, 7, 8, 9, 10, 11, 12, 13, 14, 15, 16, 17, 18, 19, 20, 21, 22, 23] (by kernel_rfl) (by kernel_rfl) ?_
          refine index_elem 4 rfl z1 k rfl (by omega) ?_
          refine load_one_elem 4 rfl k (by omega) (u := s.sb k) rfl ?_
          refine index_elem 4 rfl z1 k rfl (by omega) ?_
          refine load_one_elem 4 rfl k (by omega) (u := s.sb k) rfl ?_
          refine index_fj 3 k rfl hk (z3 k hk) c rfl hcC ?_
          refine load_fj 3 k c rfl hk hcC (b k c) (by unfold mid; rw [if_neg (by omega)]) fun y1 => ?_
          refine load_box (d := zd q) 0 rfl hqb rfl (load_I _ _) fun y2 => ?_
          refine index_elem 4 rfl z1 j rfl (by omega) ?_
          refine load_one_elem 4 rfl j (by omega) (u := s.sb j) rfl ?_
          refine index_fj 3 j rfl hj (z3 j hj) c rfl hcC ?_
          refine load_fj 3 j c rfl hj hcC (b j c) (by unfold mid; rw [if_neg (by omega)]) fun y3 => ?_
          have f1 := hb k c hk hcC
          have f2 := hb j c hj hcC
          refine call_fn (zMulZJ y2 y3 q (b j c) Q hq (by omega) f2.2.1 (by omega)) (Seals.refl _ _) qS ?_
          rintro y4 _ _ ⟨rfl, rfl⟩
          refine call_fn (zSubJZ y1 y4 (b k c) (q * jv (b j c)) _ f1.2.1 (by omega) (hq.mul (sz_jv f2.2.1 f2.2.2)) (by omega)) (Seals.refl _ _) qS ?_
          rintro y5 _ _ ⟨rfl, rfl⟩
          refine index_fj 3 k rfl hk (z3 k hk) c rfl hcC ?_
          refine store_fj 3 k c rfl hk hcC (cn (jv (b k c) - q * jv (b j c))) (mid b k j q (c + 1)) (Reads.fact (d := zd (jv (b k c) - q * jv (b j c))) qM) (fun a b' ha hb' => ?_) ?_
          · unfold mid
            by_cases e : a = k ∧ b' = c
            · rw [if_pos e, if_pos ⟨e.1, by omega⟩, e.2]
            · rw [if_neg e]
              by_cases e2 : a = k ∧ b' < c
              · rw [if_pos e2, if_pos ⟨e2.1, by omega⟩]
              · rw [if_neg e2, if_neg (by omega)]
          refine ar rfl qI ?_
          exact again (c + 1) (by omega) (by simp only; omega) qF (Seals.sub qD)
          have hcC : c = m := by omega
          subst hcC
          refine ar rfl qI ?_
          exact again 1 (by omega) (by simp only; omega) qF (Seals.sub qD)
      ·
        refine index_fact (n := 2) qM 1 rfl (by decide) fun a1 => ?_
        refine load_one (u := s.vu) qM ?_
        refine index_elem 6 rfl z2 k rfl (by omega) ?_
        refine load_one_elem 6 rfl k (by omega) (u := s.su k) rfl ?_
        refine len_fj 5 k rfl hk (z4 k hk) fun _ => ?_
        refine loop_rule (X := Nat) (fun c => ([(0, ptr0 s.r 0), (1, .int .i64 (k : Nat)), (2, .int .i64 (j : Nat)), (7, qb), (9, s.vu), (19, lt), (20, .int .i64 2), (21, .int .i64 (1 : Nat)), (29, .int .i64 (n : Nat)), (30, .int .i64 (c : Nat))],
            own1 qb 2 1 (fun _ => zd q) :: F :: bas s m n (mid b k j q m) (mid u k j q c) d l os, (lt, .sl 1 2 fun i => [Dat.one s.vb, Dat.one s.vu].getD i (.one undef)) :: fs))
            (fun c => c ≤ n) (fun c => n - c) rfl ?_ ?_
        · exact again 0 (Nat.zero_le _) trivial qF (by rw [mid_zero]; exact Seals.sub qD)
        · rintro c hcm
          refine cmp_split _ rfl (fun hlt => ?_) (fun hlt => ?_)
          have hcC : c < n := by omega
          refine draw_rule [0, 1, 2, 3, 4, 5, 6, 7, 8, 9, 10, 11, 12, 13, 14, 15, 16, 17, 18, 19, 20, 21, 22, 23] [0, 1, 2, 3, 4, 5, 6, 7, 8, 9, 10, 11, 12, 13, 14, 15, 16, 17, 18, 19, 20, 21, 22, 23] (by kernel_rfl) (by kernel_rfl) ?_
          refine index_elem 6 rfl z2 k rfl (by omega) ?_
          refine load_one_elem 6 rfl k (by omega) (u := s.su k) rfl ?_
          refine index_elem 6 rfl z2 k rfl (by omega) ?_
          refine load_one_elem 6 rfl k (by omega) (u := s.su k) rfl ?_
          refine index_fj 5 k rfl hk (z4 k hk) c rfl hcC ?_
          refine load_fj 5 k c rfl hk hcC (u k c) (by unfold mid; rw [if_neg (by omega)]) fun y1 => ?_
          refine load_box (d := zd q) 0 rfl hqb rfl (load_I _ _) fun y2 => ?_
          refine index_elem 6 rfl z2 j rfl (by omega) ?_
          refine load_one_elem 6 rfl j (by omega) (u := s.su j) rfl ?_
          refine index_fj 5 j rfl hj (z4 j hj) c rfl hcC ?_
          refine load_fj 5 j c rfl hj hcC (u j c) (by unfold mid; rw [if_neg (by omega)]) fun y3 => ?_
          have f1 := hu k c hk hcC
          have f2 := hu j c hj hcC
          refine call_fn (zMulZJ y2 y3 q (u j c) Q hq (by omega) f2.2.1 (by omega)) (Seals.refl _ _) qS ?_
          rintro y4 _ _ ⟨rfl, rfl⟩
          refine call_fn (zSubJZ y1 y4 (u k c) (q * jv (u j c)) _ f1.2.1 (by omega) (hq.mul (sz_jv f2.2.1 f2.2.2)) (by omega)) (Seals.refl _ _) qS ?_
          rintro y5 _ _ ⟨rfl, rfl⟩
          refine index_fj 5 k rfl hk (z4 k hk) c rfl hcC ?_
          refine store_fj 5 k c rfl hk hcC (cn (jv (u k c) - q * jv (u j c))) (mid u k j q (c + 1)) (Reads.fact (d := zd (jv (u k c) - q * jv (u j c))) qM) (fun a b' ha hb' => ?_) ?_
          · unfold mid
            by_cases e : a = k ∧ b' = c
            · rw [if_pos e, if_pos ⟨e.1, by omega⟩, e.2]
            · rw [if_neg e]
              by_cases e2 : a = k ∧ b' < c
              · rw [if_pos e2, if_pos ⟨e2.1, by omega⟩]
              · rw [if_neg e2, if_neg (by omega)]
          refine ar rfl qI ?_
          exact again (c + 1) (by omega) (by simp only; omega) qF (Seals.sub qD)
          have hcC : c = n := by omega
          subst hcC
          refine ar rfl qI ?_
          exact again 2 (by omega) (by simp only; omega) qF (Seals.sub qD)
    · have ht2 : t = 2 := by omega
      subst ht2
      exact fin (kk _) (Seals.trans (Seals.drop 0 _ _) (Seals.sub qD))
open Go.RowKit
theorem oper_wp_mono2 {P : Program} {o : Oper} {a : Act} {w : World} {K K' : Act → World → Prop} {Q Q' : Exit → Act → World → Prop} (h : ∀ a w, K a w → K' a w) (hE : ∀ e a w, e ≠ .normal → Q e a w → Q' e a w)
    (hh : o.wp P a w K Q) : o.wp P a w K' Q' := by
  unfold Oper.wp at *
  generalize (execOp a.eval o).run P w = r at *
  cases r with
  | ok n w' =>
    cases n <;> simp only [Oper.upon] at hh ⊢ <;>
      first
        | exact h _ _ hh
        | exact Calls.mono hh (fun e w'' he => by cases e <;> first | exact h _ _ he | exact hE _ _ _ (by simp) he | exact (let ⟨a, w, h⟩ := (he : LetsOut Q); ⟨a, w, hE _ _ _ (by simp) h⟩))
        | exact Rows.mono hh (fun _ _ he => h _ _ he)
        | exact hE _ _ _ (by simp) hh
        | exact hh
  | halt x w' => cases x <;> simp only [Oper.upon] at hh ⊢ <;> first | exact hh | exact hE _ _ _ (by simp) hh
theorem wpOps_take {P : Program} {n : Nat} {L : List Oper} {Q Q0 : Exit → Act → World → Prop} (h0 : ∀ a w, Q0 .normal a w → wpOps P L.toArray Q [n] a w) (hE : ∀ e a w, e ≠ .normal → Q0 e a w → Q e a w) (hL : LetsOut Q0 → LetsOut Q)
    (hg : ∀ i o, i < n → L[i]? = some o → o.guard = none) : ∀ (pre : List Nat), (∀ i, i ∈ pre → i < n) → ∀ a w, wpOps P (L.take n).toArray Q0 pre a w → wpOps P L.toArray Q (pre ++ [n]) a w
  | [], _, a, w, h => h0 a w h
  | i :: rest, hi, a, w, h => by
    have ih := wpOps_take h0 hE hL hg rest (fun j hj => hi j (List.mem_cons_of_mem _ hj))
    have hin := hi i (List.mem_cons_self ..)
    have e1 : (L.take n).toArray[i]? = L.toArray[i]? := by
      rw [List.getElem?_toArray, List.getElem?_toArray, List.getElem?_take]; simp [hin]
    simp only [List.cons_append, wpOps, e1] at h ⊢
    cases ho : L.toArray[i]? with
    | none => rw [ho] at h; exact ih a w h
    | some o =>
      rw [ho] at h
      have hgo := hg i o hin (by simpa using ho)
      have hw1 : ∀ y, Region.wanted o y = true := fun y => by simp [Region.wanted, hgo]
      simp only [hw1, if_true] at h ⊢
      exact h.imp (oper_wp_mono2 (fun a w h => ih a w h) hE) (fun h => ⟨h.1, hL h.2⟩)
def lastOK (L : List Oper) (c g : List Nat) (n : Nat) : Bool :=
  Nat.beq L.length (n + 1) && edgesOK L.length g 0 L && ordOK (L.take n) c && (List.range n).all (fun i => anc (ancs L []) i n) && (L.take n).all (fun o => match o.guard with
    | none => true
    | some _ => false)
theorem draw_last {P : Program} {N id : Nat} {L : List Oper} {f : Fr} {os : List Own} {fs : List Fact} {K : Next1} (c g : List Nat) (n : Nat) (hok : lastOK L c g n = true) (hdst : dstsOK N L = true) (hd0 : dstsOK N (L.take n) = true)
    (k : VCops P true (L.take n) (pickOps (L.take n) c) f os fs fun f os fs => VCops P false L (pickOps L [n]) f os fs K) : DrawK P N id L f os fs K := by
  simp only [lastOK, Bool.and_eq_true] at hok
  obtain ⟨⟨⟨⟨h1, h2⟩, h3⟩, h4⟩, h5⟩ := hok
  have hlen : L.length = n + 1 := Nat.eq_of_beq_eq_true h1
  have hanc : ∀ i, i < n → Tc L i n := fun i hi => anc_tc (List.all_eq_true.1 h4 i (by simpa using hi))
  have hg : ∀ i o, i < n → L[i]? = some o → o.guard = none := fun i o hi ho => by
    have hm : o ∈ L.take n := List.mem_of_getElem? (i := i) (by rw [List.getElem?_take]; simp [hi, ho])
    have := List.all_eq_true.1 h5 o hm
    cases e : o.guard with
    | none => rfl
    | some _ => simp [e] at this
  have htl : (L.take n).length = n := by rw [List.length_take, hlen]; omega
  refine ⟨fun G Q hQ a w hk hw => wp_region_draw fun t => ?_⟩
  have hord := schedule_ord h2 (P.follows .mixedOrders) t
  generalize Region.schedule _ L.toArray t = l at hord
  have hw' : Holds G os fs { w with drawn := w.drawn + 1 } := hw.grow ((Below.refl w.heap.size w).drew)
  generalize ({ w with drawn := w.drawn + 1 } : World) = w1 at hw'
  obtain ⟨pre, post, rfl⟩ := List.append_of_mem ((hord.all n).2 (by omega))
  have hnod := hord.nodup
  have hclosed : ∀ i, i ∈ pre → ∀ j, Binds .any L j i → j ∈ pre := fun i hi j hj => by
    obtain ⟨p1, p2, rfl⟩ := List.append_of_mem hi
    exact List.mem_append_left _ (hord.before p1 i (p2 ++ n :: post) (by simp) j hj)
  have hall : ∀ i, i < n → i ∈ pre := fun i hi => (hanc i hi).closed hclosed (fun j hj => hord.before pre n post rfl j hj)
  have hpost : post = [] := by
    cases post with
    | nil => rfl
    | cons x r =>
      exfalso
      have hx : x < n + 1 := by rw [← hlen]; exact (hord.all x).1 (by simp)
      have hne : x ≠ n := fun e => by subst e; simp [List.nodup_append] at hnod
      have hxp := hall x (by omega)
      rw [List.nodup_append] at hnod
      exact hnod.2.2 x hxp x (by simp) rfl
  subst hpost
  have hlt : ∀ i, i ∈ pre → i < n := fun i hi => by
    have : i < L.length := (hord.all i).1 (by simp [hi])
    have hne : i ≠ n := fun e => by
      subst e
      rw [List.nodup_append] at hnod
      exact hnod.2.2 i hi i (by simp) rfl
    omega
  have hget : ∀ i, i < n → (L.take n)[i]? = L[i]? := fun i hi => by rw [List.getElem?_take]; simp [hi]
  have hord0 : Order .any (L.take n) pre := by
    refine ⟨(List.nodup_append.1 hnod).1, fun i => ⟨fun hi => by rw [htl]; exact hlt i hi, fun hi => hall i (by rw [htl] at hi; exact hi)⟩, fun p i q hp j hj => ?_⟩
    obtain ⟨o, g1, e, g2, g3, g4⟩ := hj
    have hi := hlt i (by rw [hp]; simp)
    rw [hget i hi] at g1
    exact hord.before p i (q ++ [n]) (by rw [hp]; simp) j ⟨o, g1, e, g2, g3, g4⟩
  let K0 : Next1 := fun f os fs => VCops P false L (pickOps L [n]) f os fs K
  let Q0 : Post := fun e => match e with
    | .normal => K0
    | e => Q e
  have hE : ∀ e a w, e ≠ .normal → Qhat N G Q0 e a w → Qhat N G Q e a w := fun e a w he h => by
    cases e <;> first | exact absurd rfl he | exact h
  refine wpOps_take (Q0 := Qhat N G Q0) ?_ hE (fun ⟨a, w, h⟩ => ⟨a, w, hE _ a w (by simp) h⟩) hg pre hlt a w1 ?_
  · rintro a w ⟨f', os', fs', hk', hw2, hv⟩
    obtain ⟨o, ho⟩ : ∃ o, L[n]? = some o := ⟨L[n], by simp [hlen]⟩
    have hp : pickOps L [n] = [o] := by
      rw [pickOps_cons, nthO_eq, ho]; rfl
    have hv' : VCops P false L [o] f' os' fs' (Q .normal) := by rw [hQ, ← hp]; exact hv
    have dk : ∀ (L : List Oper) (k : Nat) (o : Oper), dstsOK N L = true → L[k]? = some o → dstOK N o.dst = true := by
      intro L
      induction L with
      | nil => intro k o _ h; simp at h
      | cons x r ih =>
        intro k o hd h
        simp only [dstsOK, Bool.and_eq_true] at hd
        cases k with
        | zero => simp only [List.getElem?_cons_zero, Option.some.injEq] at h; subst h; exact hd.1
        | succ k => exact ih k o hd.2 (by simpa using h)
    have hs := VCops.sound (P := P) (N := N) (ops := L.toArray) (d := false) (G := G) (Q := Q) [o] f' os' fs' (by simp [dstsOK, dk L n o hdst ho]) (by simpa using hv') a w hk' hw2
    have ho' : L.toArray[n]? = some o := by simpa using ho
    simp only [wpOps, ho']
    exact hs
  · have hc := ordOK_sound h3
    refine sim (K := K0) (f0 := f) hc hd0 (Q := Q0) rfl pre (fun _ => False) (vd := []) (c' := c) (val := fun _ => undef) (vf := f) (os := os) (fs := fs) ?_ (fun i => by simpa using (hord0.all i).symm) hord0.nodup (fun _ _ h => h) (fun p i q hp j hj => .inr (hord0.before p i q hp j hj))
    exact ⟨rfl, fun _ h => h.elim, fun _ h => h.elim, hk.defers, hk.size, fun t v ht => hk.holds t v (by
      rcases ht with ⟨_, _, h, _⟩ | h
      · exact h.elim
      · exact h.1), fun t v ht => .inr ⟨ht, fun j o hj => by simp at hj⟩, fun k o hk => by simp at hk, hw', k⟩
open Go.RowKit
def lmid (l : Mx) (d : Nat → Int) (k j : Nat) (q : Int) (i : Nat) : Mx := fun a t => if a = k then (if t = j then l k j - q * d (j + 1) else if t < i then l k t - q * l j t else l k t) else l a t
theorem lmid_q0 (l : Mx) (d : Nat → Int) (k j i : Nat) : lmid l d k j 0 i = l := by
  funext a t
  unfold lmid
  by_cases e : a = k
  · subst e
    rw [if_pos rfl]
    by_cases e2 : t = j
    · subst e2; rw [if_pos rfl]; omega
    · rw [if_neg e2]; split <;> omega
  · rw [if_neg e]
theorem size_call {K : Cont} {os : List Own} {fs : List Fact} {s : BS} {m n : Nat} {b u : Jx} {d : Nat → Int} {l : Mx} (k j D L B : Nat) (hk : k < n) (hj : j < k) (hN : n ≤ 1048576) (hM : m ≤ 1048576) (hs : s.ok n) {Bm Um : Mx}
    (hb : Rp n m b Bm B) (hu : Rp n n u Um B) (hd : ∀ t, t ≤ n → sz (d t) D) (hl : ∀ i j, j < i → i < n → sz (l i j) L) (hpos : 0 < d (j + 1)) (hD : D ≤ 536870912) (hL : L ≤ 536870912) (hB : B ≤ 1073741824)
    (kk : ∀ r b2 u2, (b2 = b ∧ rnd (l k j) (d (j + 1)) = 0 ∨ b2 = mid b k j (rnd (l k j) (d (j + 1))) m) → (u2 = u ∧ rnd (l k j) (d (j + 1)) = 0 ∨ u2 = mid u k j (rnd (l k j) (d (j + 1))) n) → K r (bas s m n b2 u2 d (lmid l d k j (rnd (l k j) (d (j + 1))) j) os) fs) :
    CallK Tryz.prog false (.func (.func 72) #[] #[]) [ptr0 s.r 0, .int .i64 (k : Nat), .int .i64 (j : Nat)] (bas s m n b u d l os) fs K := by
  have hlk := hl k j hj hk
  have hdj := hd (j + 1) (by omega)
  have hq : sz (rnd (l k j) (d (j + 1))) (L + 1) := rnd_sz hlk hpos
  generalize hqe : rnd (l k j) (d (j + 1)) = q at *
  have hr := fun y1 y2 => zRound_meets y1 y2 (l k j) (d (j + 1)) (D + L) (hlk.mono (by omega)) (hdj.mono (by omega)) (by omega) hpos
  rw [hqe] at hr
  refine call_inline Tryz.func72 (by kernel_rfl) rfl (by kernel_rfl) (Nat.le_of_ble_eq_true rfl) ?_
  refine draw_join (X := Value) (fun z => ([(0, ptr0 s.r 0), (1, .int .i64 (k : Nat)), (2, .int .i64 (j : Nat)), (6, z)], own1 z 2 1 (fun _ => zd q) :: bas s m n b u d l os, fs)) isBox ?_ ?_
  ·
    refine draw_ord [0, 1, 2, 3, 4, 5, 6, 7, 8, 9, 10, 11, 12, 13, 14, 15, 16, 17, 18, 19, 20, 22, 23, 21, 24] (by kernel_rfl) ?_
    refine ord_split 18 22 (by kernel_rfl) (by kernel_rfl) (by kernel_rfl) ?_ ?_
    · refine ord_go [0, 1, 2, 3, 4, 5, 6, 7, 8, 9, 10, 11, 12, 13, 14, 15, 16, 17, 18, 19, 20, 21, 22, 23, 24] (by kernel_rfl) (by kernel_rfl) ?_
      refine field_ptr ?_
      refine ld4l 0 rfl rfl ?_
      refine index_elem 7 rfl hs.vl (k) (by omega) (by omega) ?_
      refine load_one_elem 7 rfl (k) (by omega) (u := s.sl (k)) rfl ?_
      refine index_fj 6 (k) rfl (by omega) (hs.sl (k) (by omega)) (j) (by omega) (by omega) ?_
      refine load_fz 6 (k) (j) rfl (by omega) (by omega) fun y1 => ?_
      refine field_ptr ?_
      refine ld4d 0 rfl rfl ?_
      refine ar rfl qI ?_
      refine index_elem 5 rfl hs.vd (j + 1) (by omega) (by omega) ?_
      refine load_elem' (d := zd (d (j + 1))) 5 rfl (j + 1) (by omega) rfl (load_I _ _) fun y2 => ?_
      refine call_fn (hr y1 y2) (Seals.refl _ _) qS ?_
      rintro _ _ _ ⟨rfl, z1, rfl, rfl⟩
      refine alloc_rule (d := I false []) fun b1 h1 => ?_
      refine store_box (d := zd q) 0 rfl h1 rfl (by kernel_rfl) (Reads.fact qM) ?_
      exact again b1 h1 trivial qF (Seals.trans (Seals.box0 rfl) (Seals.sub qD))
    · refine ord_go [0, 1, 2, 3, 4, 5, 6, 7, 8, 9, 10, 11, 12, 13, 14, 15, 16, 17, 22, 18, 19, 20, 21, 23, 24] (by kernel_rfl) (by kernel_rfl) ?_
      refine field_ptr ?_
      refine ld4l 0 rfl rfl ?_
      refine index_elem 7 rfl hs.vl (k) (by omega) (by omega) ?_
      refine load_one_elem 7 rfl (k) (by omega) (u := s.sl (k)) rfl ?_
      refine index_fj 6 (k) rfl (by omega) (hs.sl (k) (by omega)) (j) (by omega) (by omega) ?_
      refine load_fz 6 (k) (j) rfl (by omega) (by omega) fun y1 => ?_
      refine field_ptr ?_
      refine ld4d 0 rfl rfl ?_
      refine ar rfl qI ?_
      refine index_elem 5 rfl hs.vd (j + 1) (by omega) (by omega) ?_
      refine load_elem' (d := zd (d (j + 1))) 5 rfl (j + 1) (by omega) rfl (load_I _ _) fun y2 => ?_
      refine alloc_rule (d := I false []) fun b1 h1 => ?_
      refine call_fn (hr y1 y2) (Seals.refl _ _) qS ?_
      rintro _ _ _ ⟨rfl, z1, rfl, rfl⟩
      refine store_box (d := zd q) 0 rfl h1 rfl (by kernel_rfl) (Reads.fact qM) ?_
      exact again b1 h1 trivial qF (Seals.trans (Seals.box0 rfl) (Seals.sub qD))
  rintro bx hbx
  refine load_box (d := zd q) 0 rfl hbx rfl (load_I _ _) fun y1 => ?_
  refine call_fn (zSignZ y1 q _ hq (by omega)) (Seals.refl _ _) qS ?_
  rintro _ _ _ ⟨rfl, rfl, rfl⟩
  refine cmp_split _ rfl (fun hc => ?_) (fun hc => ?_)
  · have h0 : q = 0 := Int.sign_eq_zero_iff_zero.1 hc
    subst h0
    have k1 := fun r => kk r b u (.inl ⟨rfl, rfl⟩) (.inl ⟨rfl, rfl⟩)
    rw [lmid_q0] at k1
    exact fin (k1 _) (Seals.trans (Seals.drop 0 _ _) (Seals.sub qD))
  refine draw_last [0, 1, 2, 3, 4, 5] [0, 1, 2, 3, 4, 5, 6] 6 (by kernel_rfl) (by kernel_rfl) (by kernel_rfl) ?_
  refine field_ptr ?_
  refine load_box (d := zd q) 0 rfl hbx rfl (load_I _ _) fun y2 => ?_
  refine less_call y2 q k j (L + 1) B hk hj hN hM hs hb hu hq (by omega) hB ?_ fun r => ?_
  · exact List.Mem.head _
  refine draw_rule [0, 1, 2, 3, 4, 5, 6, 7, 8, 9, 10, 11, 12, 13, 14, 15, 16, 17, 18, 19, 20, 21, 22, 23, 24, 25, 26, 27, 28, 29, 30] [0, 1, 2, 3, 4, 5, 6, 7, 8, 9, 10, 11, 12, 13, 14, 15, 16, 17, 18, 19, 20, 21, 22, 23, 24, 25, 26, 27, 28, 29, 30] (by kernel_rfl) (by kernel_rfl) ?_
  refine field_ptr ?_
  refine ld4l 1 rfl rfl ?_
  refine index_elem 8 rfl hs.vl k (by omega) (by omega) ?_
  refine load_one_elem 8 rfl k (by omega) (u := s.sl k) rfl ?_
  refine field_ptr ?_
  refine ld4l 1 rfl rfl ?_
  refine index_elem 8 rfl hs.vl (k) (by omega) (by omega) ?_
  refine load_one_elem 8 rfl (k) (by omega) (u := s.sl (k)) rfl ?_
  refine index_fj 7 (k) rfl (by omega) (hs.sl (k) (by omega)) (j) (by omega) (by omega) ?_
  refine load_fz 7 (k) (j) rfl (by omega) (by omega) fun y3 => ?_
  refine load_box (d := zd q) 0 rfl hbx rfl (load_I _ _) fun y4 => ?_
  refine field_ptr ?_
  refine ld4d 1 rfl rfl ?_
  refine ar rfl qI ?_
  refine index_elem 6 rfl hs.vd (j + 1) (by omega) (by omega) ?_
  refine load_elem' (d := zd (d (j + 1))) 6 rfl (j + 1) (by omega) rfl (load_I _ _) fun y5 => ?_
  refine call_fn (zMulZ y4 y5 q (d (j + 1)) _ _ hq hdj (by omega) (by omega)) (Seals.refl _ _) qS ?_
  rintro y6 _ _ ⟨rfl, rfl⟩
  refine call_fn (zSubZ y3 y6 (l k j) (q * d (j + 1)) _ _ hlk (hq.mul hdj) (by omega) (by omega)) (Seals.refl _ _) qS ?_
  rintro y7 _ _ ⟨rfl, rfl⟩
  refine index_fj 7 k rfl hk (hs.sl k hk) j rfl (by omega) ?_
  refine store_fj 7 k j rfl hk (by omega) (cn (l k j - q * d (j + 1))) (fun a t => cn (lmid l d k j q 0 a t)) (Reads.fact (d := zd (l k j - q * d (j + 1))) qM) (fun a t ha ht => ?_) ?_
  · simp only [lmid]
    by_cases e : a = k
    · subst e
      rw [if_pos rfl]
      by_cases e2 : t = j
      · rw [if_pos e2, if_pos ⟨rfl, e2⟩]
      · rw [if_neg e2, if_neg (Nat.not_lt_zero _), if_neg (fun h => e2 h.2)]
    · rw [if_neg e, if_neg (fun h => e h.1)]
  refine loop_rule (X := Nat) (fun i => ([(0, ptr0 s.r 0), (1, .int .i64 (k : Nat)), (2, .int .i64 (j : Nat)), (6, bx), (71, .int .i64 (j : Nat)), (72, .int .i64 (i : Nat))],
      own1 bx 2 1 (fun _ => zd q) :: bas s m n (mid b k j q m) (mid u k j q n) d (lmid l d k j q i) os, fs)) (fun i => i ≤ j) (fun i => j - i) rfl ?_ ?_
  · exact again 0 (Nat.zero_le _) trivial qF (Seals.sub qD)
  · rintro i hij
    refine cmp_split _ rfl (fun hlt => ?_) (fun hlt => ?_)
    · have hi : i < j := by omega
      refine draw_rule [0, 1, 2, 3, 4, 5, 6, 7, 8, 9, 10, 11, 12, 13, 14, 15, 16, 17, 18, 19, 20, 21, 22, 23, 24, 25, 26, 27, 28, 29, 30, 31, 32] [0, 1, 2, 3, 4, 5, 6, 7, 8, 9, 10, 11, 12, 13, 14, 15, 16, 17, 18, 19, 20, 21, 22, 23, 24, 25, 26, 27, 28, 29, 30, 31, 32] (by kernel_rfl) (by kernel_rfl) ?_
      refine field_ptr ?_
      refine ld4l 1 rfl rfl ?_
      refine index_elem 8 rfl hs.vl k (by omega) (by omega) ?_
      refine load_one_elem 8 rfl k (by omega) (u := s.sl k) rfl ?_
      refine field_ptr ?_
      refine ld4l 1 rfl rfl ?_
      refine index_elem 8 rfl hs.vl k (by omega) (by omega) ?_
      refine load_one_elem 8 rfl k (by omega) (u := s.sl k) rfl ?_
      refine index_fj 7 k rfl hk (hs.sl k hk) i rfl (by omega) ?_
      refine load_fj 7 k i rfl hk (by omega) (cn (l k i)) (by unfold lmid; rw [if_pos rfl, if_neg (by omega), if_neg (by omega)]) fun y3 => ?_
      refine load_box (d := zd q) 0 rfl hbx rfl (load_I _ _) fun y4 => ?_
      refine field_ptr ?_
      refine ld4l 1 rfl rfl ?_
      refine index_elem 8 rfl hs.vl j (by omega) (by omega) ?_
      refine load_one_elem 8 rfl j (by omega) (u := s.sl j) rfl ?_
      refine index_fj 7 j rfl (by omega) (hs.sl j (by omega)) i rfl (by omega) ?_
      refine load_fj 7 j i rfl (by omega) (by omega) (cn (l j i)) (by unfold lmid; rw [if_neg (by omega)]) fun y5 => ?_
      have g1 := hl j i hi (by omega)
      have g2 := hl k i (by omega) hk
      refine call_fn (zMulZ y4 y5 q (l j i) _ _ hq g1 (by omega) (by omega)) (Seals.refl _ _) qS ?_
      rintro y6 _ _ ⟨rfl, rfl⟩
      refine call_fn (zSubZ y3 y6 (l k i) (q * l j i) _ _ g2 (hq.mul g1) (by omega) (by omega)) (Seals.refl _ _) qS ?_
      rintro y7 _ _ ⟨rfl, rfl⟩
      refine index_fj 7 k rfl hk (hs.sl k hk) i rfl (by omega) ?_
      refine store_fj 7 k i rfl hk (by omega) (cn (l k i - q * l j i)) (fun a t => cn (lmid l d k j q (i + 1) a t)) (Reads.fact (d := zd (l k i - q * l j i)) qM) (fun a t ha ht => ?_) ?_
      · simp only [lmid]
        by_cases e : a = k
        · subst e
          rw [if_pos rfl, if_pos rfl]
          by_cases e2 : t = j
          · rw [if_pos e2, if_pos e2, if_neg (by omega)]
          · rw [if_neg e2, if_neg e2]
            by_cases e3 : t = i
            · subst e3
              rw [if_pos (by omega), if_pos ⟨rfl, rfl⟩]
            · by_cases e4 : t < i
              · rw [if_pos (by omega), if_neg (by omega), if_pos e4]
              · rw [if_neg (by omega), if_neg (by omega), if_neg e4]
        · rw [if_neg e, if_neg (fun h => e h.1), if_neg e]
      refine ar rfl qI ?_
      exact again (i + 1) (by omega) (by simp only; omega) qF (Seals.sub qD)
    · have hi : i = j := by omega
      subst hi
      exact fin (kk _ _ _ (.inr rfl) (.inr rfl)) (Seals.trans (Seals.drop 0 _ _) (Seals.sub qD))
open Go.RowKit
def BS.sw (s : BS) (p : Nat) : BS := { s with sb := fun i => s.sb (sx p i), su := fun i => s.su (sx p i) }
theorem BS.ok.sw {s : BS} {n p : Nat} (h : s.ok n) (hp : p + 1 < n) : (s.sw p).ok n :=
  ⟨h.vb, h.vu, h.vd, h.vl, fun _ hi => h.sb _ (sx_lt hp hi), fun _ hi => h.su _ (sx_lt hp hi), h.sl⟩
theorem sx_inj {p i j : Nat} (h : sx p i = sx p j) : i = j := by rw [← sx_sx p i, h, sx_sx]
theorem upd_sw {f : Nat → Value} {k : Nat} (h1 : 1 ≤ k) (y : Nat) : upd (upd (fun i => Dat.one (f i)) k (.one (f (k - 1)))) (k - 1) (.one (f k)) y = .one (f (sx (k - 1) y)) := by
  simp only [upd, sx]
  by_cases e : y = k - 1
  · rw [if_pos e, if_pos e, show k - 1 + 1 = k by omega]
  · rw [if_neg e, if_neg e]
    by_cases e2 : y = k
    · rw [if_pos e2, if_pos (by omega)]
    · rw [if_neg e2, if_neg (by omega)]
theorem swap_call {K : Cont} {os : List Own} {fs : List Fact} {s : BS} {m n : Nat} {b u : Jx} {d : Nat → Int} {l : Mx} (k : Nat) (h1 : 1 ≤ k) (hk : k < n) (hN : n ≤ 1048576) (hs : s.ok n)
    (kk : ∀ r, K r (bas (s.sw (k - 1)) m n (fun i c => b (sx (k - 1) i) c) (fun i c => u (sx (k - 1) i) c) d l os) fs) :
    CallK Tryz.prog false (.func (.func 118) #[] #[]) [ptr0 s.r 0, .int .i64 (k : Nat)] (bas s m n b u d l os) fs K := by
  have z1 := hs.vb
  have z2 := hs.vu
  refine call_inline Tryz.func118 (by kernel_rfl) rfl (by kernel_rfl) (Nat.le_of_ble_eq_true rfl) ?_
  refine draw_join (X := Unit) (fun _ => ([(0, ptr0 s.r 0), (1, .int .i64 (k : Nat))], bas { s with sb := fun i => s.sb (sx (k - 1) i) } m n (fun i c => b (sx (k - 1) i) c) u d l os, fs)) (fun _ => True) ?_ ?_
  · have o1 := (hs.sb (k - 1) (by omega)).one
    have o2 := (hs.sb k hk).one
    refine draw_ord [0, 1, 2, 3, 4, 5, 6, 7, 8, 11, 12, 13, 14, 15, 16, 17, 18, 19, 20, 21, 22, 23, 24, 25, 26, 27, 9, 10, 28, 29] (by kernel_rfl) ?_
    refine ord_split 10 27 (by kernel_rfl) (by kernel_rfl) (by kernel_rfl) ?_ ?_
    · refine ord_go [0, 1, 2, 3, 4, 5, 6, 7, 8, 9, 10, 11, 12, 13, 14, 15, 16, 17, 18, 19, 20, 21, 22, 23, 24, 25, 26, 27, 28, 29] (by kernel_rfl) (by kernel_rfl) ?_
      refine field_ptr ?_
      refine ld4b 0 rfl rfl ?_
      refine field_ptr ?_
      refine ld4b 0 rfl rfl ?_
      refine ar rfl qI ?_
      refine field_ptr ?_
      refine ld4b 0 rfl rfl ?_
      refine ar rfl qI ?_
      refine index_elem 2 rfl z1 (k - 1) (by omega) (by omega) ?_
      refine load_one_elem 2 rfl (k - 1) (by omega) (u := s.sb (k - 1)) rfl ?_
      refine field_ptr ?_
      refine ld4b 0 rfl rfl ?_
      refine index_elem 2 rfl z1 k (by omega) (by omega) ?_
      refine load_one_elem 2 rfl k (by omega) (u := s.sb k) rfl ?_
      refine index_elem 2 rfl z1 k (by omega) (by omega) ?_
      refine store_elem (d := .one (s.sb (k - 1))) 2 rfl k (by omega) rfl (by kernel_rfl) (Reads.one o1) ?_
      refine index_elem 2 rfl z1 (k - 1) (by omega) (by omega) ?_
      refine store_elem (d := .one (s.sb k)) 2 rfl (k - 1) (by omega) rfl (by kernel_rfl) (Reads.one o2) ?_
      exact again () trivial trivial qF (Seals.trans (Seals.own_cong (os := [_, _, _, _, _, _, _, _] ++ os) 2 (fun i => .one (s.sb (sx (k - 1) i))) rfl rfl (fun y _ => upd_sw h1 y))
        (Seals.trans (Seals.fjcong (vs := s.sb) (x := b) (x' := fun i c => b (sx (k - 1) i) c) (vs' := fun i => s.sb (sx (k - 1) i)) (os := [_, _, _, _, _, _, _, _] ++ os) 1 rfl (sx (k - 1)) (fun i hi => ⟨sx_lt (by omega) hi, rfl, fun _ _ => rfl⟩) (fun i j _ _ h => sx_inj h)) (Seals.sub qD)))
    · refine ord_go [0, 1, 2, 3, 4, 5, 6, 7, 8, 9, 11, 12, 13, 14, 15, 16, 17, 18, 19, 20, 21, 22, 23, 24, 25, 26, 27, 10, 28, 29] (by kernel_rfl) (by kernel_rfl) ?_
      refine field_ptr ?_
      refine ld4b 0 rfl rfl ?_
      refine field_ptr ?_
      refine ld4b 0 rfl rfl ?_
      refine field_ptr ?_
      refine ld4b 0 rfl rfl ?_
      refine ar rfl qI ?_
      refine index_elem 2 rfl z1 (k - 1) (by omega) (by omega) ?_
      refine load_one_elem 2 rfl (k - 1) (by omega) (u := s.sb (k - 1)) rfl ?_
      refine field_ptr ?_
      refine ld4b 0 rfl rfl ?_
      refine index_elem 2 rfl z1 k (by omega) (by omega) ?_
      refine load_one_elem 2 rfl k (by omega) (u := s.sb k) rfl ?_
      refine index_elem 2 rfl z1 k (by omega) (by omega) ?_
      refine store_elem (d := .one (s.sb (k - 1))) 2 rfl k (by omega) rfl (by kernel_rfl) (Reads.one o1) ?_
      refine ar rfl qI ?_
      refine index_elem 2 rfl z1 (k - 1) (by omega) (by omega) ?_
      refine store_elem (d := .one (s.sb k)) 2 rfl (k - 1) (by omega) rfl (by kernel_rfl) (Reads.one o2) ?_
      exact again () trivial trivial qF (Seals.trans (Seals.own_cong (os := [_, _, _, _, _, _, _, _] ++ os) 2 (fun i => .one (s.sb (sx (k - 1) i))) rfl rfl (fun y _ => upd_sw h1 y))
        (Seals.trans (Seals.fjcong (vs := s.sb) (x := b) (x' := fun i c => b (sx (k - 1) i) c) (vs' := fun i => s.sb (sx (k - 1) i)) (os := [_, _, _, _, _, _, _, _] ++ os) 1 rfl (sx (k - 1)) (fun i hi => ⟨sx_lt (by omega) hi, rfl, fun _ _ => rfl⟩) (fun i j _ _ h => sx_inj h)) (Seals.sub qD)))
  rintro - -
  refine draw_join (X := Unit) (fun _ => ([(0, ptr0 s.r 0), (1, .int .i64 (k : Nat))], bas (s.sw (k - 1)) m n (fun i c => b (sx (k - 1) i) c) (fun i c => u (sx (k - 1) i) c) d l os, fs)) (fun _ => True) ?_ ?_
  · have o1 := (hs.su (k - 1) (by omega)).one
    have o2 := (hs.su k hk).one
    refine draw_ord [0, 1, 2, 3, 4, 5, 6, 7, 8, 11, 12, 13, 14, 15, 16, 17, 18, 19, 20, 21, 22, 23, 24, 25, 26, 27, 9, 10, 28, 29] (by kernel_rfl) ?_
    refine ord_split 10 27 (by kernel_rfl) (by kernel_rfl) (by kernel_rfl) ?_ ?_
    · refine ord_go [0, 1, 2, 3, 4, 5, 6, 7, 8, 9, 10, 11, 12, 13, 14, 15, 16, 17, 18, 19, 20, 21, 22, 23, 24, 25, 26, 27, 28, 29] (by kernel_rfl) (by kernel_rfl) ?_
      refine field_ptr ?_
      refine ld4u 0 rfl rfl ?_
      refine field_ptr ?_
      refine ld4u 0 rfl rfl ?_
      refine ar rfl qI ?_
      refine field_ptr ?_
      refine ld4u 0 rfl rfl ?_
      refine ar rfl qI ?_
      refine index_elem 4 rfl z2 (k - 1) (by omega) (by omega) ?_
      refine load_one_elem 4 rfl (k - 1) (by omega) (u := s.su (k - 1)) rfl ?_
      refine field_ptr ?_
      refine ld4u 0 rfl rfl ?_
      refine index_elem 4 rfl z2 k (by omega) (by omega) ?_
      refine load_one_elem 4 rfl k (by omega) (u := s.su k) rfl ?_
      refine index_elem 4 rfl z2 k (by omega) (by omega) ?_
      refine store_elem (d := .one (s.su (k - 1))) 4 rfl k (by omega) rfl (by kernel_rfl) (Reads.one o1) ?_
      refine index_elem 4 rfl z2 (k - 1) (by omega) (by omega) ?_
      refine store_elem (d := .one (s.su k)) 4 rfl (k - 1) (by omega) rfl (by kernel_rfl) (Reads.one o2) ?_
      exact again () trivial trivial qF (Seals.trans (Seals.own_cong (os := [_, _, _, _, _, _, _, _] ++ os) 4 (fun i => .one (s.su (sx (k - 1) i))) rfl rfl (fun y _ => upd_sw h1 y))
        (Seals.trans (Seals.fjcong (vs := s.su) (x := u) (x' := fun i c => u (sx (k - 1) i) c) (vs' := fun i => s.su (sx (k - 1) i)) (os := [_, _, _, _, _, _, _, _] ++ os) 3 rfl (sx (k - 1)) (fun i hi => ⟨sx_lt (by omega) hi, rfl, fun _ _ => rfl⟩) (fun i j _ _ h => sx_inj h)) (Seals.sub qD)))
    · refine ord_go [0, 1, 2, 3, 4, 5, 6, 7, 8, 9, 11, 12, 13, 14, 15, 16, 17, 18, 19, 20, 21, 22, 23, 24, 25, 26, 27, 10, 28, 29] (by kernel_rfl) (by kernel_rfl) ?_
      refine field_ptr ?_
      refine ld4u 0 rfl rfl ?_
      refine field_ptr ?_
      refine ld4u 0 rfl rfl ?_
      refine field_ptr ?_
      refine ld4u 0 rfl rfl ?_
      refine ar rfl qI ?_
      refine index_elem 4 rfl z2 (k - 1) (by omega) (by omega) ?_
      refine load_one_elem 4 rfl (k - 1) (by omega) (u := s.su (k - 1)) rfl ?_
      refine field_ptr ?_
      refine ld4u 0 rfl rfl ?_
      refine index_elem 4 rfl z2 k (by omega) (by omega) ?_
      refine load_one_elem 4 rfl k (by omega) (u := s.su k) rfl ?_
      refine index_elem 4 rfl z2 k (by omega) (by omega) ?_
      refine store_elem (d := .one (s.su (k - 1))) 4 rfl k (by omega) rfl (by kernel_rfl) (Reads.one o1) ?_
      refine ar rfl qI ?_
      refine index_elem 4 rfl z2 (k - 1) (by omega) (by omega) ?_
      refine store_elem (d := .one (s.su k)) 4 rfl (k - 1) (by omega) rfl (by kernel_rfl) (Reads.one o2) ?_
      exact again () trivial trivial qF (Seals.trans (Seals.own_cong (os := [_, _, _, _, _, _, _, _] ++ os) 4 (fun i => .one (s.su (sx (k - 1) i))) rfl rfl (fun y _ => upd_sw h1 y))
        (Seals.trans (Seals.fjcong (vs := s.su) (x := u) (x' := fun i c => u (sx (k - 1) i) c) (vs' := fun i => s.su (sx (k - 1) i)) (os := [_, _, _, _, _, _, _, _] ++ os) 3 rfl (sx (k - 1)) (fun i hi => ⟨sx_lt (by omega) hi, rfl, fun _ _ => rfl⟩) (fun i j _ _ h => sx_inj h)) (Seals.sub qD)))
  rintro - -
  exact fin (kk _) (Seals.sub qD)
open Go.RowKit
def tsw (l : Mx) (k c : Nat) : Mx := fun a t => if a = k ∧ t < c then l (k - 1) t else if a = k - 1 ∧ t < c then l k t else l a t
def tD (d : Nat → Int) (l : Mx) (k : Nat) : Int := (d (k - 1) * d (k + 1) + l k (k - 1) * l k (k - 1)) / d k
def tN1 (d : Nat → Int) (l : Mx) (k i : Nat) : Int := (d (k + 1) * l i (k - 1) - l k (k - 1) * l i k) / d k
def tN2 (d : Nat → Int) (l : Mx) (k i : Nat) : Int := (tD d l k * l i k + l k (k - 1) * tN1 d l k i) / d (k + 1)
def trw (d : Nat → Int) (l : Mx) (k i : Nat) : Mx := fun a t => if k < a ∧ a < i then (if t = k then tN1 d l k a else if t = k - 1 then tN2 d l k a else l a t) else tsw l k (k - 1) a t
def tdd (d : Nat → Int) (l : Mx) (k : Nat) : Nat → Int := fun i => if i = k then tD d l k else d i
theorem tsw_zero (l : Mx) (k : Nat) : tsw l k 0 = l := by
  funext a t; unfold tsw; rw [if_neg (by omega), if_neg (by omega)]
theorem trw_start (d : Nat → Int) (l : Mx) (k : Nat) : trw d l k (k + 1) = tsw l k (k - 1) := by
  funext a t; unfold trw; rw [if_neg (by omega)]
theorem turn_call {K : Cont} {os : List Own} {fs : List Fact} {s : BS} {m n : Nat} {b u : Jx} {d : Nat → Int} {l : Mx} (k D L : Nat) (h1 : 1 ≤ k) (hk : k < n) (hN : n ≤ 1048576) (hs0 : s.ok n)
    (hd : ∀ t, t ≤ n → sz (d t) D) (hl : ∀ i j, j < i → i < n → sz (l i j) L) (nk : d k ≠ 0) (nk1 : d (k + 1) ≠ 0) (hD : D ≤ 268435456) (hL : L ≤ 268435456)
    (kk : ∀ r, K r (bas (s.sw (k - 1)) m n (fun i c => b (sx (k - 1) i) c) (fun i c => u (sx (k - 1) i) c) (tdd d l k) (trw d l k n) os) fs) :
    CallK Tryz.prog false (.func (.func 74) #[] #[]) [ptr0 s.r 0, .int .i64 (k : Nat)] (bas s m n b u d l os) fs K := by
  have hd1 := hd (k + 1) (by omega)
  have hdm := hd (k - 1) (by omega)
  have hdk := hd k (by omega)
  have hlk := hl k (k - 1) (by omega) hk
  have hA : sz (d (k - 1) * d (k + 1) + l k (k - 1) * l k (k - 1)) (D + D + (L + L) + 1) := sz_add2 (hdm.mul hd1) (hlk.mul hlk)
  have hT : sz (tD d l k) (D + D + (L + L) + 1) := sz_div hA
  refine call_inline Tryz.func74 (by kernel_rfl) rfl (by kernel_rfl) (Nat.le_of_ble_eq_true rfl) ?_
  refine field_ptr ?_
  refine swap_call k h1 hk hN hs0 fun r => ?_
  have hs : (s.sw (k - 1)).ok n := hs0.sw (by omega)
  rw [show ptr0 s.r 0 = ptr0 (s.sw (k - 1)).r 0 from rfl]
  generalize s.sw (k - 1) = s at *
  generalize (fun i c => b (sx (k - 1) i) c) = b at *
  generalize (fun i c => u (sx (k - 1) i) c) = u at *
  refine ar rfl qI ?_
  refine loop_rule (X := Nat) (fun c => ([(0, ptr0 s.r 0), (1, .int .i64 (k : Nat)), (15, .int .i64 ((k - 1 : Nat) : Nat)), (16, .int .i64 (c : Nat))], bas s m n b u d (tsw l k c) os, fs)) (fun c => c ≤ k - 1) (fun c => k - 1 - c) rfl ?_ ?_
  · exact again 0 (Nat.zero_le _) trivial qF (by rw [tsw_zero]; exact (Seals.sub qD))
  · rintro c hc
    refine cmp_split _ rfl (fun hlt => ?_) (fun hlt => ?_)
    · have hck : c < k - 1 := by omega
      refine draw_rule [0, 1, 2, 3, 4, 5, 6, 7, 8, 9, 10, 11, 12, 13, 14, 15, 16, 17, 18, 19, 20, 21, 22, 23, 24, 25, 26, 27, 28, 29, 30, 31, 32, 33, 34, 35, 36, 37, 38, 39, 40, 41] [0, 1, 2, 3, 4, 5, 6, 7, 8, 9, 10, 11, 12, 13, 14, 15, 17, 18, 19, 20, 21, 22, 23, 24, 25, 26, 27, 28, 29, 30, 31, 32, 33, 34, 35, 36, 37, 38, 39, 16, 40, 41] (by kernel_rfl) (by kernel_rfl) ?_
      refine field_ptr ?_
      refine ld4l 0 rfl rfl ?_
      refine index_elem 7 rfl hs.vl (k) (by omega) (by omega) ?_
      refine load_one_elem 7 rfl (k) (by omega) (u := s.sl (k)) rfl ?_
      refine field_ptr ?_
      refine ld4l 0 rfl rfl ?_
      refine ar rfl qI ?_
      refine index_elem 7 rfl hs.vl (k - 1) (by omega) (by omega) ?_
      refine load_one_elem 7 rfl (k - 1) (by omega) (u := s.sl (k - 1)) rfl ?_
      refine field_ptr ?_
      refine ld4l 0 rfl rfl ?_
      refine ar rfl qI ?_
      refine index_elem 7 rfl hs.vl (k - 1) (by omega) (by omega) ?_
      refine load_one_elem 7 rfl (k - 1) (by omega) (u := s.sl (k - 1)) rfl ?_
      refine index_fj 6 (k - 1) rfl (by omega) (hs.sl (k - 1) (by omega)) (c) (by omega) (by omega) ?_
      refine load_fj 6 (k - 1) c rfl (by omega) (by omega) (cn (l (k - 1) c)) (by unfold tsw; rw [if_neg (by omega), if_neg (by omega)]) fun y1 => ?_
      refine field_ptr ?_
      refine ld4l 0 rfl rfl ?_
      refine index_elem 7 rfl hs.vl (k) (by omega) (by omega) ?_
      refine load_one_elem 7 rfl (k) (by omega) (u := s.sl (k)) rfl ?_
      refine index_fj 6 (k) rfl (by omega) (hs.sl (k) (by omega)) (c) (by omega) (by omega) ?_
      refine load_fj 6 k c rfl (by omega) (by omega) (cn (l k c)) (by unfold tsw; rw [if_neg (by omega), if_neg (by omega)]) fun y2 => ?_
      refine index_fj 6 (k) rfl (by omega) (hs.sl (k) (by omega)) (c) (by omega) (by omega) ?_
      refine store_fj 6 k c rfl (by omega) (by omega) (cn (l (k - 1) c)) (fun a t => if a = k ∧ t = c then cn (l (k - 1) c) else cn (tsw l k c a t)) (Reads.fact qM) (fun a t _ _ => rfl) ?_
      refine index_fj 6 (k - 1) rfl (by omega) (hs.sl (k - 1) (by omega)) (c) (by omega) (by omega) ?_
      refine store_fj 6 (k - 1) c rfl (by omega) (by omega) (cn (l k c)) (fun a t => cn (tsw l k (c + 1) a t)) (Reads.fact qM) (fun a t _ _ => ?_) ?_
      · simp only [tsw]
        by_cases e1 : a = k
        · by_cases e2 : t = c
          · rw [if_pos (by omega), if_neg (by omega), if_pos ⟨e1, e2⟩, e2]
          · by_cases e3 : t < c
            · rw [if_pos (by omega), if_neg (by omega), if_neg (by omega), if_pos (by omega)]
            · rw [if_neg (by omega), if_neg (by omega), if_neg (by omega), if_neg (by omega), if_neg (by omega), if_neg (by omega)]
        · by_cases e4 : a = k - 1
          · by_cases e2 : t = c
            · rw [if_neg (by omega), if_pos (by omega), if_pos ⟨e4, e2⟩, e2]
            · by_cases e3 : t < c
              · rw [if_neg (by omega), if_pos (by omega), if_neg (by omega), if_neg (by omega), if_neg (by omega), if_pos (by omega)]
              · rw [if_neg (by omega), if_neg (by omega), if_neg (by omega), if_neg (by omega), if_neg (by omega), if_neg (by omega)]
          · rw [if_neg (by omega), if_neg (by omega), if_neg (by omega), if_neg (by omega), if_neg (by omega), if_neg (by omega)]
      refine ar rfl qI ?_
      exact again (c + 1) (by omega) (by simp only; omega) qF (Seals.sub qD)
    · have hck : c = k - 1 := by omega
      subst hck
      refine field_ptr ?_
      refine ld4l 0 rfl rfl ?_
      refine index_elem 7 rfl hs.vl (k) (by omega) (by omega) ?_
      refine load_one_elem 7 rfl (k) (by omega) (u := s.sl (k)) rfl ?_
      refine ar rfl qI ?_
      refine index_fj 6 (k) rfl (by omega) (hs.sl (k) (by omega)) (k - 1) (by omega) (by omega) ?_
      refine load_fj 6 k (k - 1) rfl (by omega) (by omega) (cn (l k (k - 1))) (by unfold tsw; rw [if_neg (by omega), if_neg (by omega)]) fun x1 => ?_
      refine alloc_rule (d := I false []) fun xb hxb => ?_
      refine store_box (d := zd (l k (k - 1))) 0 rfl hxb rfl (by kernel_rfl) ?_ ?_; exact Reads.fact qM
      refine draw_join (X := Value) (fun z => ([(0, ptr0 s.r 0), (1, .int .i64 (k : Nat)), (5, xb), (6, z)], own1 z 2 1 (fun _ => zd (tD d l k)) :: own1 xb 2 1 (fun _ => zd (l k (k - 1))) :: bas s m n b u d (tsw l k (k - 1)) os, fs)) isBox ?_ ?_
      ·
        refine draw_ord [0, 1, 2, 3, 4, 5, 6, 7, 8, 9, 10, 11, 12, 13, 14, 15, 16, 17, 18, 19, 20, 21, 22, 23, 24, 25, 26, 27, 28, 29, 30] (by kernel_rfl) ?_
        refine ord_split 16 29 (by kernel_rfl) (by kernel_rfl) (by kernel_rfl) ?_ ?_
        · refine ord_split 19 29 (by kernel_rfl) (by kernel_rfl) (by kernel_rfl) ?_ ?_
          · refine ord_split 20 29 (by kernel_rfl) (by kernel_rfl) (by kernel_rfl) ?_ ?_
            · refine ord_split 28 29 (by kernel_rfl) (by kernel_rfl) (by kernel_rfl) ?_ ?_
              · refine ord_go [0, 1, 2, 3, 4, 5, 6, 7, 8, 9, 10, 11, 12, 13, 14, 15, 17, 18, 21, 22, 23, 24, 25, 26, 27, 16, 19, 20, 28, 29, 30] (by kernel_rfl) (by kernel_rfl) ?_
                refine field_ptr ?_
                refine ld4d 1 rfl rfl ?_
                refine ar rfl qI ?_
                refine index_elem 6 rfl hs.vd (k - 1) (by omega) (by omega) ?_
                refine load_elem' (d := zd (d (k - 1))) 6 rfl (k - 1) (by omega) rfl (load_I _ _) fun y1 => ?_
                refine field_ptr ?_
                refine ld4d 1 rfl rfl ?_
                refine ar rfl qI ?_
                refine index_elem 6 rfl hs.vd (k + 1) (by omega) (by omega) ?_
                refine load_elem' (d := zd (d (k + 1))) 6 rfl (k + 1) (by omega) rfl (load_I _ _) fun y2 => ?_
                refine load_box (d := zd (l k (k - 1))) 0 rfl hxb rfl (load_I _ _) fun y3 => ?_
                refine load_box (d := zd (l k (k - 1))) 0 rfl hxb rfl (load_I _ _) fun y4 => ?_
                refine field_ptr ?_
                refine ld4d 1 rfl rfl ?_
                refine index_elem 6 rfl hs.vd (k) (by omega) (by omega) ?_
                refine load_elem' (d := zd (d (k))) 6 rfl (k) (by omega) rfl (load_I _ _) fun y5 => ?_
                refine call_fn (zMulZ y1 y2 (d (k - 1)) (d (k + 1)) D D hdm hd1 (by omega) (by omega)) (Seals.refl _ _) qS ?_
                rintro z1 _ _ ⟨rfl, rfl⟩
                refine call_fn (zMulZ y3 y4 (l k (k - 1)) (l k (k - 1)) L L hlk hlk (by omega) (by omega)) (Seals.refl _ _) qS ?_
                rintro z2 _ _ ⟨rfl, rfl⟩
                refine call_fn (zAddZ z1 z2 _ _ (D + D) (L + L) (hdm.mul hd1) (hlk.mul hlk) (by omega) (by omega)) (Seals.refl _ _) qS ?_
                rintro z3 _ _ ⟨rfl, rfl⟩
                refine call_fn (lquot_meets z3 y5 _ (d k) (D + D + (L + L) + 1) D hA hdk (by omega) (by omega) nk) (Seals.refl _ _) qS ?_
                rintro z4 _ _ ⟨rfl, rfl⟩
                refine alloc_rule (d := I false []) fun b1 h1' => ?_
                refine store_box (d := zd (tD d l k)) 0 rfl h1' rfl (by kernel_rfl) (Reads.fact qM) ?_
                exact again b1 h1' trivial qF (Seals.trans (Seals.box0 rfl) (Seals.trans (Seals.box1 rfl) (Seals.sub qD)))
              · refine ord_go [0, 1, 2, 3, 4, 5, 6, 7, 8, 9, 10, 11, 12, 13, 14, 15, 17, 18, 21, 22, 23, 24, 25, 26, 27, 16, 19, 20, 29, 28, 30] (by kernel_rfl) (by kernel_rfl) ?_
                refine field_ptr ?_
                refine ld4d 1 rfl rfl ?_
                refine ar rfl qI ?_
                refine index_elem 6 rfl hs.vd (k - 1) (by omega) (by omega) ?_
                refine load_elem' (d := zd (d (k - 1))) 6 rfl (k - 1) (by omega) rfl (load_I _ _) fun y1 => ?_
                refine field_ptr ?_
                refine ld4d 1 rfl rfl ?_
                refine ar rfl qI ?_
                refine index_elem 6 rfl hs.vd (k + 1) (by omega) (by omega) ?_
                refine load_elem' (d := zd (d (k + 1))) 6 rfl (k + 1) (by omega) rfl (load_I _ _) fun y2 => ?_
                refine load_box (d := zd (l k (k - 1))) 0 rfl hxb rfl (load_I _ _) fun y3 => ?_
                refine load_box (d := zd (l k (k - 1))) 0 rfl hxb rfl (load_I _ _) fun y4 => ?_
                refine field_ptr ?_
                refine ld4d 1 rfl rfl ?_
                refine index_elem 6 rfl hs.vd (k) (by omega) (by omega) ?_
                refine load_elem' (d := zd (d (k))) 6 rfl (k) (by omega) rfl (load_I _ _) fun y5 => ?_
                refine call_fn (zMulZ y1 y2 (d (k - 1)) (d (k + 1)) D D hdm hd1 (by omega) (by omega)) (Seals.refl _ _) qS ?_
                rintro z1 _ _ ⟨rfl, rfl⟩
                refine call_fn (zMulZ y3 y4 (l k (k - 1)) (l k (k - 1)) L L hlk hlk (by omega) (by omega)) (Seals.refl _ _) qS ?_
                rintro z2 _ _ ⟨rfl, rfl⟩
                refine call_fn (zAddZ z1 z2 _ _ (D + D) (L + L) (hdm.mul hd1) (hlk.mul hlk) (by omega) (by omega)) (Seals.refl _ _) qS ?_
                rintro z3 _ _ ⟨rfl, rfl⟩
                refine alloc_rule (d := I false []) fun b1 h1' => ?_
                refine call_fn (lquot_meets z3 y5 _ (d k) (D + D + (L + L) + 1) D hA hdk (by omega) (by omega) nk) (Seals.refl _ _) qS ?_
                rintro z4 _ _ ⟨rfl, rfl⟩
                refine store_box (d := zd (tD d l k)) 0 rfl h1' rfl (by kernel_rfl) (Reads.fact qM) ?_
                exact again b1 h1' trivial qF (Seals.trans (Seals.box0 rfl) (Seals.trans (Seals.box1 rfl) (Seals.sub qD)))
            · refine ord_go [0, 1, 2, 3, 4, 5, 6, 7, 8, 9, 10, 11, 12, 13, 14, 15, 17, 18, 21, 22, 23, 24, 25, 26, 27, 16, 19, 29, 20, 28, 30] (by kernel_rfl) (by kernel_rfl) ?_
              refine field_ptr ?_
              refine ld4d 1 rfl rfl ?_
              refine ar rfl qI ?_
              refine index_elem 6 rfl hs.vd (k - 1) (by omega) (by omega) ?_
              refine load_elem' (d := zd (d (k - 1))) 6 rfl (k - 1) (by omega) rfl (load_I _ _) fun y1 => ?_
              refine field_ptr ?_
              refine ld4d 1 rfl rfl ?_
              refine ar rfl qI ?_
              refine index_elem 6 rfl hs.vd (k + 1) (by omega) (by omega) ?_
              refine load_elem' (d := zd (d (k + 1))) 6 rfl (k + 1) (by omega) rfl (load_I _ _) fun y2 => ?_
              refine load_box (d := zd (l k (k - 1))) 0 rfl hxb rfl (load_I _ _) fun y3 => ?_
              refine load_box (d := zd (l k (k - 1))) 0 rfl hxb rfl (load_I _ _) fun y4 => ?_
              refine field_ptr ?_
              refine ld4d 1 rfl rfl ?_
              refine index_elem 6 rfl hs.vd (k) (by omega) (by omega) ?_
              refine load_elem' (d := zd (d (k))) 6 rfl (k) (by omega) rfl (load_I _ _) fun y5 => ?_
              refine call_fn (zMulZ y1 y2 (d (k - 1)) (d (k + 1)) D D hdm hd1 (by omega) (by omega)) (Seals.refl _ _) qS ?_
              rintro z1 _ _ ⟨rfl, rfl⟩
              refine call_fn (zMulZ y3 y4 (l k (k - 1)) (l k (k - 1)) L L hlk hlk (by omega) (by omega)) (Seals.refl _ _) qS ?_
              rintro z2 _ _ ⟨rfl, rfl⟩
              refine alloc_rule (d := I false []) fun b1 h1' => ?_
              refine call_fn (zAddZ z1 z2 _ _ (D + D) (L + L) (hdm.mul hd1) (hlk.mul hlk) (by omega) (by omega)) (Seals.refl _ _) qS ?_
              rintro z3 _ _ ⟨rfl, rfl⟩
              refine call_fn (lquot_meets z3 y5 _ (d k) (D + D + (L + L) + 1) D hA hdk (by omega) (by omega) nk) (Seals.refl _ _) qS ?_
              rintro z4 _ _ ⟨rfl, rfl⟩
              refine store_box (d := zd (tD d l k)) 0 rfl h1' rfl (by kernel_rfl) (Reads.fact qM) ?_
              exact again b1 h1' trivial qF (Seals.trans (Seals.box0 rfl) (Seals.trans (Seals.box1 rfl) (Seals.sub qD)))
          · refine ord_go [0, 1, 2, 3, 4, 5, 6, 7, 8, 9, 10, 11, 12, 13, 14, 15, 17, 18, 21, 22, 23, 24, 25, 26, 27, 16, 29, 19, 20, 28, 30] (by kernel_rfl) (by kernel_rfl) ?_
            refine field_ptr ?_
            refine ld4d 1 rfl rfl ?_
            refine ar rfl qI ?_
            refine index_elem 6 rfl hs.vd (k - 1) (by omega) (by omega) ?_
            refine load_elem' (d := zd (d (k - 1))) 6 rfl (k - 1) (by omega) rfl (load_I _ _) fun y1 => ?_
            refine field_ptr ?_
            refine ld4d 1 rfl rfl ?_
            refine ar rfl qI ?_
            refine index_elem 6 rfl hs.vd (k + 1) (by omega) (by omega) ?_
            refine load_elem' (d := zd (d (k + 1))) 6 rfl (k + 1) (by omega) rfl (load_I _ _) fun y2 => ?_
            refine load_box (d := zd (l k (k - 1))) 0 rfl hxb rfl (load_I _ _) fun y3 => ?_
            refine load_box (d := zd (l k (k - 1))) 0 rfl hxb rfl (load_I _ _) fun y4 => ?_
            refine field_ptr ?_
            refine ld4d 1 rfl rfl ?_
            refine index_elem 6 rfl hs.vd (k) (by omega) (by omega) ?_
            refine load_elem' (d := zd (d (k))) 6 rfl (k) (by omega) rfl (load_I _ _) fun y5 => ?_
            refine call_fn (zMulZ y1 y2 (d (k - 1)) (d (k + 1)) D D hdm hd1 (by omega) (by omega)) (Seals.refl _ _) qS ?_
            rintro z1 _ _ ⟨rfl, rfl⟩
            refine alloc_rule (d := I false []) fun b1 h1' => ?_
            refine call_fn (zMulZ y3 y4 (l k (k - 1)) (l k (k - 1)) L L hlk hlk (by omega) (by omega)) (Seals.refl _ _) qS ?_
            rintro z2 _ _ ⟨rfl, rfl⟩
            refine call_fn (zAddZ z1 z2 _ _ (D + D) (L + L) (hdm.mul hd1) (hlk.mul hlk) (by omega) (by omega)) (Seals.refl _ _) qS ?_
            rintro z3 _ _ ⟨rfl, rfl⟩
            refine call_fn (lquot_meets z3 y5 _ (d k) (D + D + (L + L) + 1) D hA hdk (by omega) (by omega) nk) (Seals.refl _ _) qS ?_
            rintro z4 _ _ ⟨rfl, rfl⟩
            refine store_box (d := zd (tD d l k)) 0 rfl h1' rfl (by kernel_rfl) (Reads.fact qM) ?_
            exact again b1 h1' trivial qF (Seals.trans (Seals.box0 rfl) (Seals.trans (Seals.box1 rfl) (Seals.sub qD)))
        · refine ord_go [0, 1, 2, 3, 4, 5, 6, 7, 8, 9, 10, 11, 12, 13, 14, 15, 17, 18, 21, 22, 23, 24, 25, 26, 27, 29, 16, 19, 20, 28, 30] (by kernel_rfl) (by kernel_rfl) ?_
          refine field_ptr ?_
          refine ld4d 1 rfl rfl ?_
          refine ar rfl qI ?_
          refine index_elem 6 rfl hs.vd (k - 1) (by omega) (by omega) ?_
          refine load_elem' (d := zd (d (k - 1))) 6 rfl (k - 1) (by omega) rfl (load_I _ _) fun y1 => ?_
          refine field_ptr ?_
          refine ld4d 1 rfl rfl ?_
          refine ar rfl qI ?_
          refine index_elem 6 rfl hs.vd (k + 1) (by omega) (by omega) ?_
          refine load_elem' (d := zd (d (k + 1))) 6 rfl (k + 1) (by omega) rfl (load_I _ _) fun y2 => ?_
          refine load_box (d := zd (l k (k - 1))) 0 rfl hxb rfl (load_I _ _) fun y3 => ?_
          refine load_box (d := zd (l k (k - 1))) 0 rfl hxb rfl (load_I _ _) fun y4 => ?_
          refine field_ptr ?_
          refine ld4d 1 rfl rfl ?_
          refine index_elem 6 rfl hs.vd (k) (by omega) (by omega) ?_
          refine load_elem' (d := zd (d (k))) 6 rfl (k) (by omega) rfl (load_I _ _) fun y5 => ?_
          refine alloc_rule (d := I false []) fun b1 h1' => ?_
          refine call_fn (zMulZ y1 y2 (d (k - 1)) (d (k + 1)) D D hdm hd1 (by omega) (by omega)) (Seals.refl _ _) qS ?_
          rintro z1 _ _ ⟨rfl, rfl⟩
          refine call_fn (zMulZ y3 y4 (l k (k - 1)) (l k (k - 1)) L L hlk hlk (by omega) (by omega)) (Seals.refl _ _) qS ?_
          rintro z2 _ _ ⟨rfl, rfl⟩
          refine call_fn (zAddZ z1 z2 _ _ (D + D) (L + L) (hdm.mul hd1) (hlk.mul hlk) (by omega) (by omega)) (Seals.refl _ _) qS ?_
          rintro z3 _ _ ⟨rfl, rfl⟩
          refine call_fn (lquot_meets z3 y5 _ (d k) (D + D + (L + L) + 1) D hA hdk (by omega) (by omega) nk) (Seals.refl _ _) qS ?_
          rintro z4 _ _ ⟨rfl, rfl⟩
          refine store_box (d := zd (tD d l k)) 0 rfl h1' rfl (by kernel_rfl) (Reads.fact qM) ?_
          exact again b1 h1' trivial qF (Seals.trans (Seals.box0 rfl) (Seals.trans (Seals.box1 rfl) (Seals.sub qD)))
      rintro db hdb
      refine ar rfl qI ?_
      refine loop_rule (X := Nat) (fun i => ([(0, ptr0 s.r 0), (1, .int .i64 (k : Nat)), (5, xb), (6, db), (7, .int .i64 (i : Nat))], own1 db 2 1 (fun _ => zd (tD d l k)) :: own1 xb 2 1 (fun _ => zd (l k (k - 1))) :: bas s m n b u d (trw d l k i) os, fs))
        (fun i => k + 1 ≤ i ∧ i ≤ n) (fun i => n - i) rfl ?_ ?_
      · exact again (k + 1) ⟨Nat.le_refl _, hk⟩ trivial qF (by rw [trw_start]; exact (Seals.sub qD))
      · rintro i ⟨hi1, hi2⟩
        refine field_ptr ?_
        refine field_ptr ?_
        refine ld4b 2 rfl rfl ?_
        refine len_own 4 rfl hs.vb fun _ => ?_
        refine cmp_split _ rfl (fun hlt => ?_) (fun hlt => ?_)
        · have hin : i < n := by omega
          have g1 := hl i k (by omega) hin
          have g2 := hl i (k - 1) (by omega) hin
          have hn1 : sz (tN1 d l k i) (D + L + (L + L) + 1) := sz_div (sz_sub ((hd1.mul g2).mono (by omega)) ((hlk.mul g1).mono (by omega)))
          refine field_ptr ?_
          refine ld4l 2 rfl rfl ?_
          refine index_elem 9 rfl hs.vl (i) (by omega) (by omega) ?_
          refine load_one_elem 9 rfl (i) (by omega) (u := s.sl (i)) rfl ?_
          refine index_fj 8 (i) rfl (by omega) (hs.sl (i) (by omega)) (k) (by omega) (by omega) ?_
          refine load_fj 8 i k rfl (by omega) (by omega) (cn (l i k)) (by unfold trw; rw [if_neg (by omega)]; unfold tsw; rw [if_neg (by omega), if_neg (by omega)]) fun y1 => ?_
          refine alloc_rule (d := I false []) fun tb htb => ?_
          refine store_box (d := zd (l i k)) 0 rfl htb rfl (by kernel_rfl) ?_ ?_; exact Reads.fact qM
          refine draw_rule [0, 1, 2, 3, 4, 5, 6, 7, 8, 9, 10, 11, 12, 13, 14, 15, 16, 17, 18, 19, 20, 21, 22, 23, 24, 25, 26, 28, 29, 32, 33, 34, 35, 36, 37, 38, 27, 30, 31, 39, 40, 41] [0, 1, 2, 3, 4, 5, 6, 7, 8, 9, 10, 11, 12, 13, 14, 15, 16, 17, 18, 19, 20, 21, 22, 23, 24, 25, 26, 27, 28, 29, 30, 31, 32, 33, 34, 35, 36, 37, 38, 39, 40, 41] (by kernel_rfl) (by kernel_rfl) ?_
          refine field_ptr ?_
          refine ld4l 3 rfl rfl ?_
          refine index_elem 10 rfl hs.vl (i) (by omega) (by omega) ?_
          refine load_one_elem 10 rfl (i) (by omega) (u := s.sl (i)) rfl ?_
          refine field_ptr ?_
          refine ld4d 3 rfl rfl ?_
          refine ar rfl qI ?_
          refine index_elem 8 rfl hs.vd (k + 1) (by omega) (by omega) ?_
          refine load_elem' (d := zd (d (k + 1))) 8 rfl (k + 1) (by omega) rfl (load_I _ _) fun y2 => ?_
          refine field_ptr ?_
          refine ld4l 3 rfl rfl ?_
          refine index_elem 10 rfl hs.vl (i) (by omega) (by omega) ?_
          refine load_one_elem 10 rfl (i) (by omega) (u := s.sl (i)) rfl ?_
          refine ar rfl qI ?_
          refine index_fj 9 (i) rfl (by omega) (hs.sl (i) (by omega)) (k - 1) (by omega) (by omega) ?_
          refine load_fj 9 i (k - 1) rfl (by omega) (by omega) (cn (l i (k - 1))) (by unfold trw; rw [if_neg (by omega)]; unfold tsw; rw [if_neg (by omega), if_neg (by omega)]) fun y3 => ?_
          refine load_box (d := zd (l k (k - 1))) 2 rfl hxb rfl (load_I _ _) fun y4 => ?_
          refine load_box (d := zd (l i k)) 0 rfl htb rfl (load_I _ _) fun y5 => ?_
          refine field_ptr ?_
          refine ld4d 3 rfl rfl ?_
          refine index_elem 8 rfl hs.vd (k) (by omega) (by omega) ?_
          refine load_elem' (d := zd (d (k))) 8 rfl (k) (by omega) rfl (load_I _ _) fun y6 => ?_
          refine call_fn (zMulZ y2 y3 (d (k + 1)) (l i (k - 1)) D L hd1 g2 (by omega) (by omega)) (Seals.refl _ _) qS ?_
          rintro z1 _ _ ⟨rfl, rfl⟩
          refine call_fn (zMulZ y4 y5 (l k (k - 1)) (l i k) L L hlk g1 (by omega) (by omega)) (Seals.refl _ _) qS ?_
          rintro z2 _ _ ⟨rfl, rfl⟩
          refine call_fn (zSubZ z1 z2 _ _ (D + L) (L + L) (hd1.mul g2) (hlk.mul g1) (by omega) (by omega)) (Seals.refl _ _) qS ?_
          rintro z3 _ _ ⟨rfl, rfl⟩
          refine call_fn (lquot_meets z3 y6 _ (d k) (D + L + (L + L) + 1) D (sz_sub ((hd1.mul g2).mono (by omega)) ((hlk.mul g1).mono (by omega))) hdk (by omega) (by omega) nk) (Seals.refl _ _) qS ?_
          rintro z4 _ _ ⟨rfl, rfl⟩
          refine index_fj 9 (i) rfl (by omega) (hs.sl (i) (by omega)) (k) (by omega) (by omega) ?_
          refine store_fj 9 i k rfl (by omega) (by omega) (cn (tN1 d l k i)) (fun a t => if a = i ∧ t = k then cn (tN1 d l k i) else cn (trw d l k i a t)) (Reads.fact (d := zd (tN1 d l k i)) qM) (fun a t _ _ => rfl) ?_
          refine draw_rule [0, 1, 2, 3, 4, 5, 6, 7, 8, 9, 10, 12, 13, 14, 15, 16, 17, 18, 19, 20, 21, 22, 25, 26, 27, 28, 29, 30, 31, 32, 11, 23, 24, 33, 34, 35] [0, 1, 2, 3, 4, 5, 6, 7, 8, 9, 10, 11, 12, 13, 14, 15, 16, 17, 18, 19, 20, 21, 22, 23, 24, 25, 26, 27, 28, 29, 30, 31, 32, 33, 34, 35] (by kernel_rfl) (by kernel_rfl) ?_
          refine field_ptr ?_
          refine ld4l 3 rfl rfl ?_
          refine index_elem 10 rfl hs.vl (i) (by omega) (by omega) ?_
          refine load_one_elem 10 rfl (i) (by omega) (u := s.sl (i)) rfl ?_
          refine ar rfl qI ?_
          refine load_box (d := zd (tD d l k)) 1 rfl hdb rfl (load_I _ _) fun w1 => ?_
          refine load_box (d := zd (l i k)) 0 rfl htb rfl (load_I _ _) fun w2 => ?_
          refine load_box (d := zd (l k (k - 1))) 2 rfl hxb rfl (load_I _ _) fun w3 => ?_
          refine field_ptr ?_
          refine ld4l 3 rfl rfl ?_
          refine index_elem 10 rfl hs.vl (i) (by omega) (by omega) ?_
          refine load_one_elem 10 rfl (i) (by omega) (u := s.sl (i)) rfl ?_
          refine index_fj 9 (i) rfl (by omega) (hs.sl (i) (by omega)) (k) (by omega) (by omega) ?_
          refine load_fj 9 i k rfl (by omega) (by omega) (cn (tN1 d l k i)) (if_pos ⟨rfl, rfl⟩) fun w4 => ?_
          refine field_ptr ?_
          refine ld4d 3 rfl rfl ?_
          refine ar rfl qI ?_
          refine index_elem 8 rfl hs.vd (k + 1) (by omega) (by omega) ?_
          refine load_elem' (d := zd (d (k + 1))) 8 rfl (k + 1) (by omega) rfl (load_I _ _) fun w5 => ?_
          refine call_fn (zMulZ w1 w2 (tD d l k) (l i k) _ _ hT g1 (by omega) (by omega)) (Seals.refl _ _) qS ?_
          rintro z1 _ _ ⟨rfl, rfl⟩
          refine call_fn (zMulZ w3 w4 (l k (k - 1)) (tN1 d l k i) _ _ hlk hn1 (by omega) (by omega)) (Seals.refl _ _) qS ?_
          rintro z2 _ _ ⟨rfl, rfl⟩
          refine call_fn (zAddZ z1 z2 _ _ _ _ (hT.mul g1) (hlk.mul hn1) (by omega) (by omega)) (Seals.refl _ _) qS ?_
          rintro z3 _ _ ⟨rfl, rfl⟩
          refine call_fn (lquot_meets z3 w5 _ (d (k + 1)) _ D (sz_add2 (hT.mul g1) (hlk.mul hn1)) hd1 (by omega) (by omega) nk1) (Seals.refl _ _) qS ?_
          rintro z4 _ _ ⟨rfl, rfl⟩
          refine index_fj 9 (i) rfl (by omega) (hs.sl (i) (by omega)) (k - 1) (by omega) (by omega) ?_
          refine store_fj 9 i (k - 1) rfl (by omega) (by omega) (cn (tN2 d l k i)) (fun a t => cn (trw d l k (i + 1) a t)) (Reads.fact (d := zd (tN2 d l k i)) qM) (fun a t _ _ => ?_) ?_
          · by_cases e : a = i
            · subst e
              by_cases e1 : t = k
              · subst e1
                rw [if_neg (by omega), if_pos ⟨rfl, rfl⟩]
                unfold trw; rw [if_pos (by omega), if_pos rfl]
              · by_cases e2 : t = k - 1
                · rw [if_pos ⟨rfl, e2⟩]
                  unfold trw; rw [if_pos (by omega), if_neg e1, if_pos e2]
                · rw [if_neg (by omega), if_neg (by omega)]
                  unfold trw; rw [if_pos (by omega), if_neg e1, if_neg e2, if_neg (by omega)]
                  unfold tsw; rw [if_neg (by omega), if_neg (by omega)]
            · rw [if_neg (by omega), if_neg (by omega)]
              unfold trw
              by_cases e3 : k < a ∧ a < i
              · rw [if_pos e3, if_pos (by omega)]
              · rw [if_neg e3, if_neg (by omega)]
          refine ar rfl qI ?_
          exact again (i + 1) ⟨by omega, by omega⟩ (by simp only; omega) qF (Seals.trans (Seals.drop 0 _ _) (Seals.sub qD))
        · have hin : i = n := by omega
          subst hin
          refine draw_rule [0, 1, 2, 3, 4, 5, 6, 7] [0, 1, 2, 3, 4, 5, 6, 7] (by kernel_rfl) (by kernel_rfl) ?_
          refine field_ptr ?_
          refine ld4d 2 rfl rfl ?_
          refine load_box (d := zd (tD d l k)) 0 rfl hdb rfl (load_I _ _) fun w1 => ?_
          refine index_elem 7 rfl hs.vd k (by omega) (by omega) ?_
          refine store_elem (d := zd (tD d l k)) 7 rfl k (by omega) rfl (by kernel_rfl) (Reads.fact qM) ?_
          refine fin (kk _) (Seals.trans (Seals.drop 0 _ _) (Seals.trans (Seals.drop 0 _ _) (Seals.trans (Seals.own_cong (os := [_, _, _, _, _, _, _, _] ++ os) 5 (fun i => zd (tdd d l k i)) rfl rfl (fun y _ => ?_)) (Seals.sub qD))))
          show upd (fun i => zd (d i)) k (zd (tD d l k)) y = zd (tdd d l k y)
          unfold upd tdd
          split <;> rfl
open Go.RowKit
theorem owned_perm {os os' : List Own} (h : os.Perm os') (b : Nat) : owned os b ↔ owned os' b := by
  rw [owned_mem, owned_mem]
  exact ⟨fun ⟨o, h1, h2⟩ => ⟨o, h.mem_iff.1 h1, h2⟩, fun ⟨o, h1, h2⟩ => ⟨o, h.mem_iff.2 h1, h2⟩⟩
theorem Apart.perm {os os' : List Own} (h : os.Perm os') : Apart os → Apart os' := by
  induction h with
  | nil => exact id
  | cons x p ih => exact fun ⟨h1, h2, h3⟩ => ⟨h1, fun b hb ho => h2 b hb ((owned_perm p b).2 ho), ih h3⟩
  | swap x y l => exact fun ⟨h1, h2, h3, h4, h5⟩ => ⟨h3, fun b hb ho => by
      rcases ho with ho | ho
      · exact h2 b ho (.inl hb)
      · exact h4 b hb ho, h1, fun b hb ho => h2 b hb (.inr ho), h5⟩
  | trans _ _ ih1 ih2 => exact fun h => ih2 (ih1 h)
theorem Seals.perm {os os' : List Own} {fs : List Fact} (h : os.Perm os') : Seals os fs os' fs := by
  intro G w hw
  have good : ∀ b, Good G.A os w b → Good G.A os' w b := fun b ⟨g1, g2, g3⟩ => ⟨g1, g2, fun hb => g3 ((owned_perm h b).2 hb)⟩
  have agree : Agree (Good G.A os w) w w := fun _ _ => rfl
  exact ⟨hw.low, hw.size, hw.below, hw.apart.perm h, fun o ho i hi => (hw.own o (h.mem_iff.2 ho) i hi).mono agree good (fun _ _ => rfl), hw.facts.mono agree good⟩
theorem pick_range (os : List Own) : (List.range os.length).filterMap (nthOwn os) = os := by
  have e : ∀ k, nthOwn os k = os[k]? := fun k => by
    induction os generalizing k with
    | nil => simp [nthOwn]
    | cons o r ih => cases k with
      | zero => simp [nthOwn]
      | succ k => simp [nthOwn, ih]
  rw [show nthOwn os = fun k => os[k]? from funext e]
  induction os with
  | nil => rfl
  | cons o r ih =>
    rw [List.length_cons, List.range_succ_eq_map, List.filterMap_cons]
    simp only [List.getElem?_cons_zero, List.filterMap_map]
    congr 1
    have : ((fun k => (o :: r)[k]?) ∘ Nat.succ) = fun k => r[k]? := funext fun k => by simp
    rw [this]
    exact ih fun k => by
      clear ih
      induction r generalizing k with
      | nil => simp [nthOwn]
      | cons x r ih2 => cases k with
        | zero => simp [nthOwn]
        | succ k => simpa [nthOwn] using e (k + 2)
def pickOwn (os : List Own) : List Nat → List Own
  | [] => []
  | p :: r => match nthOwn os p with
    | some o => o :: pickOwn os r
    | none => pickOwn os r
theorem pickOwn_eq (os : List Own) : ∀ ps, pickOwn os ps = ps.filterMap (nthOwn os)
  | [] => rfl
  | p :: r => by
    rw [pickOwn, List.filterMap_cons, pickOwn_eq os r]
    cases nthOwn os p <;> rfl
theorem Seals.pick {os : List Own} {fs : List Fact} (ps : List Nat) (n : Nat) (hn : os.length = n) (hp : (ps.isPerm (List.range n)) = true) : Seals os fs (pickOwn os ps) fs := by
  subst hn
  have h1 : ps.Perm (List.range os.length) := List.isPerm_iff.1 hp
  rw [pickOwn_eq]
  refine Seals.perm ?_
  have h2 := (h1.filterMap (nthOwn os)).symm
  rwa [pick_range] at h2
class TB4 (P : Program) (t : TypeId) : Prop where
  und : ∃ f0 f1 f2, P.underlying t = some (.struct #[f0, f1, f2]) ∧ f0.offset = 0 ∧ f1.offset = 2 ∧ f2.offset = 3 ∧ (P.info? f0.type).map (·.size) = some 2 ∧ (P.info? f1.type).map (·.size) = some 1 ∧ (P.info? f2.type).map (·.size) = some 1
  zero : ∃ i, P.info? t = some i ∧ i.zero = some (.agg #[.slice none 0 0, .slice none 0 0, .slice none 0 0, .slice none 0 0])
def bag (a : Value) : Value := .agg #[.slice none 0 0, .slice none 0 0, a, .slice none 0 0]
theorem build_b4 {P : Program} {t : TypeId} (ht : TB4 P t) {a : Value} (ha : a.cells = #[a]) (w : World) : (Instr.build t #[(1, a)]).run P w = .ok (bag a) w := by
  obtain ⟨f0, f1, f2, h1, h2, h3, h4, h5, h6, h7⟩ := ht.und
  obtain ⟨i, h8, h9⟩ := ht.zero
  simp [Instr.build, zeroValue, typeInfo, h8, h9, run_underlying h1, run_sizeOf h5, run_sizeOf h6, run_sizeOf h7, h2, h3, h4, Instr.fill, ha, bag, show (Value.agg #[.slice none 0 0, .slice none 0 0, .slice none 0 0, .slice none 0 0]).cells = #[.slice none 0 0, .slice none 0 0, .slice none 0 0, .slice none 0 0] from rfl]
theorem build_bas {P : Program} {t : TypeId} [ht : TB4 P t] {a : Value} {os : List Own} {fs : List Fact} {K : Cont} (ha : a.oneCell' = true) (k : K (bag a) os fs) : BuildK P t [(1, a)] os fs K :=
  ⟨fun _ _ hw => ⟨_, _, fun w' _ => val_run (build_b4 ht (Array.toList_inj.1 (cells_one ha)) w'), k, hw⟩⟩
theorem Reads.bag {os : List Own} {fs : List Fact} {a : Value} (ha : a.oneCell' = true) : Reads os fs (bag a) (cells4 (.slice none 0 0) (.slice none 0 0) a (.slice none 0 0)) := fun _ _ _ => ⟨_, RdC.four.2 ⟨rfl, rfl, rfl, ha, rfl⟩, rfl⟩
theorem info_bas : (Tryz.prog.info? 104).map (fun i => (i.zero, i.size, i.bytes)) = some (some (.agg #[.slice none 0 0, .slice none 0 0, .slice none 0 0, .slice none 0 0]), 4, 96) := by kernel_rfl
instance iCWj1 : TB4 Tryz.prog 104 := ⟨⟨_, _, _, Tryz.underlying104, rfl, rfl, rfl, by kernel_rfl, by kernel_rfl, by kernel_rfl⟩, by
  obtain ⟨i, h1, _, _, h4⟩ := info_of info_bas
  exact ⟨i, h1, h4⟩⟩
def bak (s : BS) (m n i dn : Nat) (b u : Jx) (d : Nat → Int) (l : Mx) (os : List Own) : List Own :=
  own4 (ptr0 s.r 0) s.vb s.vu s.vd s.vl :: famJ s.sb i m b :: own1 s.vb 1 i (fun i => .one (s.sb i)) :: famJ s.su i n u :: own1 s.vu 1 i (fun i => .one (s.su i)) ::
    own1 s.vd 2 dn (fun i => zd (d i)) :: famZ s.sl i n l :: own1 s.vl 1 i (fun i => .one (s.sl i)) :: os
open Go.RowKit
theorem Seals.part {F : Own} {l : Nat} {os : List Own} {fs : List Fact} (hm : F.m = l + 1) :
    Seals (F :: os) fs (own1 (F.v l) F.size (F.n l) (F.e l) :: ⟨l, F.v, F.size, F.n, F.e⟩ :: os) fs := by
  intro G w hw
  have has : ∀ b, F.has b ↔ (own1 (F.v l) F.size (F.n l) (F.e l)).has b ∨ (⟨l, F.v, F.size, F.n, F.e⟩ : Own).has b := by
    intro b
    constructor
    · rintro ⟨i, hi, hb⟩
      by_cases hif : i < l
      · exact .inr ⟨i, hif, hb⟩
      · have : i = l := by omega
        subst this
        exact .inl ⟨0, Nat.zero_lt_one, hb⟩
    · rintro (⟨i, hi, hb⟩ | ⟨i, hi, hb⟩)
      · exact ⟨l, by omega, hb⟩
      · exact ⟨i, by have : i < l := hi; omega, hb⟩
  have own : ∀ b, owned (own1 (F.v l) F.size (F.n l) (F.e l) :: ⟨l, F.v, F.size, F.n, F.e⟩ :: os) b ↔ owned (F :: os) b := fun b => by simp only [owned, has b, or_assoc]
  have good : ∀ b, Good G.A (F :: os) w b → Good G.A (own1 (F.v l) F.size (F.n l) (F.e l) :: ⟨l, F.v, F.size, F.n, F.e⟩ :: os) w b := fun b ⟨g1, g2, g3⟩ => ⟨g1, g2, fun h => g3 ((own b).1 h)⟩
  have agree : Agree (Good G.A (F :: os) w) w w := fun _ _ => rfl
  obtain ⟨a1, a2, a3⟩ := hw.apart
  refine ⟨hw.low, hw.size, hw.below, ⟨fun i j b hi hj h1 h2 => ?_, fun b hb ho => ?_, fun i j b hi hj h1 h2 => a1 i j b (by have : i < l := hi; omega) (by have : j < l := hj; omega) h1 h2, fun b hb ho => a2 b ((has b).2 (.inr hb)) ho, a3⟩, fun o ho i hi => ?_, hw.facts.mono agree good⟩
  · have hi' : i < 1 := hi
    have hj' : j < 1 := hj
    omega
  · obtain ⟨i, hi, hb⟩ := hb
    rcases ho with ⟨j, hj, hb2⟩ | ho
    · have hj' : j < l := hj
      have := a1 l j b (by omega) (by omega) hb hb2
      omega
    · exact a2 b ⟨l, by omega, hb⟩ ho
  · rcases List.mem_cons.1 ho with rfl | ho
    · exact (hw.own F (by simp) l (by omega)).mono agree good (fun _ _ => rfl)
    · rcases List.mem_cons.1 ho with rfl | ho
      · have hi' : i < l := hi
        exact (hw.own F (by simp) i (by omega)).mono agree good (fun _ _ => rfl)
      · exact (hw.own o (by simp [ho]) i hi).mono agree good (fun _ _ => rfl)
theorem perm_nth {F : Own} : ∀ {os : List Own} {pos : Nat}, nthOwn os pos = some F → os.Perm (F :: dropOwn os pos)
  | [], _, h => by simp [nthOwn] at h
  | o :: r, 0, h => by simp only [nthOwn, Option.some.injEq] at h; subst h; exact List.Perm.refl _
  | o :: r, pos + 1, h => ((perm_nth (os := r) h).cons o).trans (List.Perm.swap F o _)
theorem perm_set (F' : Own) : ∀ {os : List Own} {pos : Nat} {F : Own}, nthOwn os pos = some F → (F' :: dropOwn os pos).Perm (setOwn os pos F')
  | [], _, _, h => by simp [nthOwn] at h
  | o :: r, 0, _, _ => List.Perm.refl _
  | o :: r, pos + 1, _, h => (List.Perm.swap o F' _).trans ((perm_set F' (os := r) h).cons o)
def xch (i l a : Nat) : Nat := if a = i then l else if a = l then i else a
theorem xch_xch (i l a : Nat) : xch i l (xch i l a) = a := by
  unfold xch
  split
  · subst_vars; split
    · subst_vars; rfl
    · rw [if_pos rfl]
  · split
    · subst_vars; rw [if_pos rfl]
    · rfl
theorem xch_lt {i l a n : Nat} (hi : i < n) (hl : l < n) (ha : a < n) : xch i l a < n := by unfold xch; split <;> (try split) <;> omega
theorem xch_inj {i l a b : Nat} (h : xch i l a = xch i l b) : a = b := by rw [← xch_xch i l a, h, xch_xch]
theorem append_fam {P : Program} {t ty e : TypeId} {size bytes : Nat} {b : Value} {m : Nat} {el' : Nat → Dat} {os : List Own} {fs : List Fact} {K : Cont} [ht : TSl P t e size] [he : TEl P e size bytes] {F : Own} (F' : Value → Own) (pos i : Nat)
    (h : nthOwn os pos = some F) (hi : i < F.m) (hsz : F.size = size) (hs : isSl (F.v i)) (hb : (b, .sl size m el') ∈ fs) (hm : F.n i + m ≤ 9223372036854775807) (hby : (F.n i + m) * bytes ≤ 140737488355328)
    (hF : ∀ v, (F' v).m = F.m ∧ (F' v).size = F.size ∧ ((F' v).v i = v ∧ (F' v).n i = F.n i + m ∧ ∀ j, j < F.n i + m → (F' v).e i j = if j < F.n i then F.e i j else el' (j - F.n i)) ∧ ∀ a, a < F.m → a ≠ i → (F' v).v a = F.v a ∧ (F' v).n a = F.n a ∧ ∀ j, j < F.n a → (F' v).e a j = F.e a j)
    (k : ∀ v, isSl v → K v (setOwn os pos (F' v)) fs) : AppendK P [t, t] ty (F.v i) b os fs K := by
  subst hsz
  have hz : 0 < F.size := he.pos
  obtain ⟨l, hl⟩ : ∃ l, F.m = l + 1 := ⟨F.m - 1, by omega⟩
  have el : xch i l l = i := by
    unfold xch; split
    · assumption
    · rw [if_pos rfl]
  let F1 : Own := ⟨F.m, fun a => F.v (xch i l a), F.size, fun a => F.n (xch i l a), fun a => F.e (xch i l a)⟩
  have s1 : Seals (F :: dropOwn os pos) fs (F1 :: dropOwn os pos) fs := Seals.re (os := F :: dropOwn os pos) 0 (o' := F1) rfl (xch i l) rfl (fun a ha => ⟨xch_lt hi (by omega) ha, rfl, rfl, fun _ _ => rfl⟩) (fun a b _ _ h => xch_inj h) hz
  have s2 := Seals.part (F := F1) (os := dropOwn os pos) (fs := fs) hl
  have e1 : own1 (F1.v l) F1.size (F1.n l) (F1.e l) = own1 (F.v i) F.size (F.n i) (F.e i) := by
    show own1 (F.v (xch i l l)) F.size (F.n (xch i l l)) (F.e (xch i l l)) = _
    rw [el]
  rw [e1] at s2
  refine AppendK.pre (Seals.trans (Seals.perm (perm_nth h)) (Seals.trans s1 s2)) (AppendK.post ?_)
  refine append_rule (el := F.e i) 0 rfl hs (Knw.fact hb) hm hby fun v hv => ⟨_, _, ?_, k v hv⟩
  obtain ⟨f1, f2, ⟨f3, f4, f5⟩, f6⟩ := hF v
  let F2 : Own := ⟨F.m, fun a => if a = l then v else F.v (xch i l a), F.size, fun a => if a = l then F.n i + m else F.n (xch i l a), fun a j => if a = l then (if j < F.n i then F.e i j else el' (j - F.n i)) else F.e (xch i l a) j⟩
  have s3 : Seals (own1 v F.size (F.n i + m) (fun j => if j < F.n i then F.e i j else el' (j - F.n i)) :: ⟨l, F1.v, F1.size, F1.n, F1.e⟩ :: dropOwn os pos) fs (F2 :: dropOwn os pos) fs :=
    Seals.join (F := ⟨l, F1.v, F1.size, F1.n, F1.e⟩) (F' := F2) hl rfl rfl (fun a (ha : a < l) => ⟨if_neg (by omega), if_neg (by omega), fun j _ => if_neg (by omega)⟩) ⟨if_pos rfl, if_pos rfl, fun j _ => if_pos rfl⟩ hz
  have s4 : Seals (F2 :: dropOwn os pos) fs (F' v :: dropOwn os pos) fs := by
    refine Seals.re (os := F2 :: dropOwn os pos) 0 (o := F2) (o' := F' v) rfl (xch i l) f2 (fun a ha => ?_) (fun a b _ _ h => xch_inj h) hz
    rw [f1] at ha
    refine ⟨show xch i l a < F.m from xch_lt hi (by omega) ha, ?_⟩
    by_cases hai : a = i
    · subst hai
      have ex : xch a l a = l := if_pos rfl
      rw [ex]
      refine ⟨by rw [f3]; exact (if_pos rfl).symm, by rw [f4]; exact (if_pos rfl).symm, fun j hj => ?_⟩
      have hj' : j < F.n a + m := by
        have : F2.n l = F.n a + m := if_pos rfl
        omega
      rw [f5 j hj']; exact (if_pos rfl).symm
    · have hne : xch i l a ≠ l := fun h => by
        have : xch i l a = xch i l i := by rw [h]; exact (if_pos rfl).symm
        exact hai (xch_inj this)
      obtain ⟨g1, g2, g3⟩ := f6 a ha hai
      have hn2 : F2.n (xch i l a) = F.n a := by
        show (if xch i l a = l then F.n i + m else F.n (xch i l (xch i l a))) = _
        rw [if_neg hne, xch_xch]
      refine ⟨?_, by rw [g2, hn2], fun j hj => ?_⟩
      · rw [g1]
        show _ = (if xch i l a = l then v else F.v (xch i l (xch i l a)))
        rw [if_neg hne, xch_xch]
      · rw [hn2] at hj
        rw [g3 j hj]
        show _ = (if xch i l a = l then _ else F.e (xch i l (xch i l a)) j)
        rw [if_neg hne, xch_xch]
  exact Seals.trans s3 (Seals.trans s4 (Seals.perm (perm_set (F' v) h)))
def upv (f : Nat → Value) (i : Nat) (v : Value) (a : Nat) : Value := if a = i then v else f a
theorem append_famR {P : Program} {t ty e : TypeId} {bytes : Nat} {b : Value} {x : Row} {vs : Nat → Value} {m : List Row} {os : List Own} {fs : List Fact} {K : Cont} [ht : TSl P t e 2] [he : TEl P e 2 bytes] (pos i : Nat)
    (h : nthOwn os pos = some (famR vs m)) (hi : i < m.length) (hs : isSl (vs i)) (hb : (b, V x) ∈ fs) (hm : (m.getD i []).length + x.length ≤ 9223372036854775807) (hby : ((m.getD i []).length + x.length) * bytes ≤ 140737488355328)
    (k : ∀ v, isSl v → K v (setOwn os pos (famR (upv vs i v) (m.set i (m.getD i [] ++ x)))) fs) : AppendK P [t, t] ty (vs i) b os fs K := by
  refine append_fam (F := famR vs m) (m := x.length) (el' := fun j => J (x.getD j z0)) (fun v => famR (upv vs i v) (m.set i (m.getD i [] ++ x))) pos i h hi rfl hs hb hm hby (fun v => ?_) k
  have hg : ∀ a, a < m.length → (m.set i (m.getD i [] ++ x)).getD a [] = if a = i then m.getD i [] ++ x else m.getD a [] := fun a ha => by
    rw [getD_setL hi]
  refine ⟨List.length_set, rfl, ⟨if_pos rfl, ?_, fun j hj => ?_⟩, fun a ha hai => ⟨if_neg hai, ?_, fun j hj => ?_⟩⟩
  · show ((m.set i (m.getD i [] ++ x)).getD i []).length = _
    rw [hg i hi, if_pos rfl, List.length_append]; rfl
  · show J (((m.set i (m.getD i [] ++ x)).getD i []).getD j z0) = if j < (m.getD i []).length then J ((m.getD i []).getD j z0) else J (x.getD (j - (m.getD i []).length) z0)
    rw [hg i hi, if_pos rfl]
    simp only [List.getD_eq_getElem?_getD]
    split
    · rename_i hj2
      rw [List.getElem?_append_left hj2]
    · rename_i hj2
      rw [List.getElem?_append_right (Nat.not_lt.1 hj2)]
  · show ((m.set i (m.getD i [] ++ x)).getD a []).length = _
    rw [hg a ha, if_neg hai]; rfl
  · show J (((m.set i (m.getD i [] ++ x)).getD a []).getD j z0) = J ((m.getD a []).getD j z0)
    rw [hg a ha, if_neg hai]
def nilV : Value := .slice none 0 0
theorem Seals.more {vs : Nat → Value} {m : List Row} {os : List Own} {fs : List Fact} : Seals (famR vs m :: os) fs (famR (upv vs m.length nilV) (m ++ [[]]) :: os) fs := by
  refine Seals.trans (Seals.own_nil _ _ 2 fun _ => .one undef) (Seals.join (F := famR vs m) (F' := famR (upv vs m.length nilV) (m ++ [[]])) (by simp [famR]) rfl rfl (fun a (ha : a < m.length) => ?_) ⟨if_pos rfl, ?_, fun j hj => absurd hj (Nat.not_lt_zero _)⟩)
  · have e : (m ++ [[]]).getD a [] = m.getD a [] := by simp [List.getD_eq_getElem?_getD, List.getElem?_append_left ha]
    refine ⟨if_neg (by omega), ?_, fun j _ => ?_⟩
    · show ((m ++ [[]]).getD a []).length = _
      rw [e]; rfl
    · show J (((m ++ [[]]).getD a []).getD j z0) = _
      rw [e]; rfl
  · show ((m ++ [[]]).getD m.length []).length = 0
    simp [List.getD_eq_getElem?_getD]
open Go.RowKit
def inL (l : List Nat) (i : Nat) : Bool := l.any (Nat.beq i)
def InO : List Own → List Own → Prop
  | [], _ => True
  | E :: r, os => E ∈ os ∧ InO r os
structure DoE (P : Program) (E : List Own) (f : Fr) (o : Oper) (os : List Own) (fs : List Fact) (K : Cont) : Prop where
  out : ∃ v, (∀ a : Act, KAt (opReads o.op) f a → ∀ G os fs w, InO E os → Holds G os fs w → (execOp a.eval o).run P w = .ok (.value v) w) ∧ InO E os ∧ K v os fs
def noB : Bool → Bool
  | true => false
  | false => true
def isCallV : Op → Bool
  | .call c => match c.callee with
    | .value _ => true
    | _ => false
  | _ => false
theorem DoK.semD {P : Program} {f : Fr} {os : List Own} {fs : List Fact} {K : Cont} (o : Oper) (hc : isCallV o.op = true)
    (h : DoK P false f o.type os fs K o.op) : ∃ s, (∀ a : Act, KAt (opReads o.op) f a → execOp a.eval o = s) ∧ Dyn P s os fs K := by
  cases hop : o.op <;> simp only [hop, isCallV, Bool.false_eq_true] at hc
  rename_i c
  have hargs : ∀ x, x ∈ c.args.toList → x ∈ o.op.operands.toList := fun x hx => by simp [hop, Op.operands, Call.operands]; exact .inr (by simpa using hx)
  cases hcl : c.callee <;> simp only [hcl, Bool.false_eq_true] at hc
  rw [hop] at h
  simp only [DoK, hcl] at h
  obtain ⟨x, h1, h⟩ := withV_elim h
  obtain ⟨y, h2, h⟩ := withVs_elim h
  refine ⟨_, fun a hk => ?_, h.out⟩
  rw [← hop] at hk
  unfold execOp
  simp only [hop, resolve, hcl, hk.ev (by simp [hop, Op.operands, Call.operands, hcl]) h1, arr_map _ _ _ (hk.evs hargs h2)]
theorem callV_dyn {o : Op} (h : isCallV o = true) : isDyn o = true := by
  cases o <;> simp only [isCallV, Bool.false_eq_true] at h
  rename_i c
  cases hc : c.callee <;> simp only [hc, Bool.false_eq_true] at h
  simp [isDyn, hc]
def andB (b : Bool) (p q : Prop) : Prop :=
  match b with
  | true => p ∧ q
  | false => q
def selE (b : Bool) (p q : Prop) : Prop :=
  match b with
  | true => p
  | false => q
noncomputable def VCE (P : Program) (L : List Oper) (E : List Own) (fl p1 sl : List Nat) (c : List Nat) : Fr → List Own → List Fact → Next1 → Prop :=
  @List.rec Nat (fun _ => Fr → List Own → List Fact → Next1 → Prop) (fun f os fs K => K f os fs)
    (fun i _ ih f os fs K => match nthO L i with
      | some o => selE (inL fl i) (orF (gd L f o.guard) (DoE P E f o os fs fun v os fs => ih (putF f o.dst v) os fs K) False)
        (orF (gd L f o.guard)
          (orV (detv f o.op) (fun v => ih (putF f o.dst v) os fs K) (DoK P (noB (inL sl i)) f o.type os fs (fun v os fs => andB (inL p1 i) (InO E os) (ih (putF f o.dst v) os fs K)) o.op))
          (ih (putF f o.dst undef) os fs K))
      | none => ih f os fs K) c
theorem VCE_cons (P : Program) (L : List Oper) (E : List Own) (fl p1 sl : List Nat) (i : Nat) (c : List Nat) (f : Fr) (os : List Own) (fs : List Fact) (K : Next1) (o : Oper) (ho : L[i]? = some o) :
    VCE P L E fl p1 sl (i :: c) f os fs K = selE (inL fl i) (orF (gd L f o.guard) (DoE P E f o os fs fun v os fs => VCE P L E fl p1 sl c (putF f o.dst v) os fs K) False)
        (orF (gd L f o.guard)
          (orV (detv f o.op) (fun v => VCE P L E fl p1 sl c (putF f o.dst v) os fs K) (DoK P (noB (inL sl i)) f o.type os fs (fun v os fs => andB (inL p1 i) (InO E os) (VCE P L E fl p1 sl c (putF f o.dst v) os fs K)) o.op))
          (VCE P L E fl p1 sl c (putF f o.dst undef) os fs K)) := by
  have h : nthO L i = some o := by rw [nthO_eq, ho]
  show (match nthO L i with
    | some o => _
    | none => _) = _
  rw [h]
  rfl
def pairE (L : List Oper) (tbl fl p1 sl : List Nat) (i : Nat) (oi : Oper) (j : Nat) (oj : Oper) : Bool :=
  !Nat.beq i j && !sameD oi.dst oj.dst && ((!(hits oi.dst (slotsOf L oj) || hits oj.dst (slotsOf L oi) || isDyn oi.op || (isDyn oj.op && inL fl i && !inL p1 j) || ((isSt oj.op || inL sl j) && !isPu oi.op && !inL fl i))) || anc tbl i j)
def pairsE (L : List Oper) (tbl fl p1 sl : List Nat) : List Nat → Bool
  | [] => true
  | i :: r => (match nthO L i with
      | none => false
      | some oi => !hits oi.dst (slotsOf L oi) && !(inL fl i && isDyn oi.op) && !(inL sl i && !isCallV oi.op) && r.all fun j => match nthO L j with
        | some oj => pairE L tbl fl p1 sl i oi j oj
        | none => false) && pairsE L tbl fl p1 sl r
def ordEOK (L : List Oper) (fl p1 sl c : List Nat) : Bool :=
  Nat.beq c.length L.length && (List.range L.length).all (fun i => c.any (Nat.beq i)) && pairsE L (ancs L []) fl p1 sl c
structure CheckedE (L : List Oper) (tbl fl p1 sl : List Nat) (c : List Nat) : Prop where
  nodup : c.Nodup
  all : ∀ i, i ∈ c ↔ i < L.length
  self : ∀ i o, i ∈ c → L[i]? = some o → (∀ t, o.dst = some t → t ∉ slotsOf L o) ∧ (inL fl i = true → isDyn o.op = false) ∧ (inL sl i = true → isCallV o.op = true)
  pair : ∀ pre i post j oi oj, c = pre ++ i :: post → j ∈ post → L[i]? = some oi → L[j]? = some oj →
    (∀ t, oi.dst = some t → oj.dst ≠ some t) ∧ ((∃ t, oi.dst = some t ∧ t ∈ slotsOf L oj) ∨ (∃ t, oj.dst = some t ∧ t ∈ slotsOf L oi) ∨ isDyn oi.op = true ∨ (isDyn oj.op = true ∧ inL fl i = true ∧ inL p1 j = false) ∨ ((isSt oj.op || inL sl j) = true ∧ isPu oi.op = false ∧ inL fl i = false) → anc tbl i j = true)
theorem pairsE_sound {L : List Oper} {tbl fl p1 sl : List Nat} : ∀ {c : List Nat}, pairsE L tbl fl p1 sl c = true →
    c.Nodup ∧ (∀ i, i ∈ c → i < L.length) ∧ (∀ i o, i ∈ c → L[i]? = some o → (∀ t, o.dst = some t → t ∉ slotsOf L o) ∧ (inL fl i = true → isDyn o.op = false) ∧ (inL sl i = true → isCallV o.op = true)) ∧
    ∀ pre i post j oi oj, c = pre ++ i :: post → j ∈ post → L[i]? = some oi → L[j]? = some oj →
      (∀ t, oi.dst = some t → oj.dst ≠ some t) ∧ ((∃ t, oi.dst = some t ∧ t ∈ slotsOf L oj) ∨ (∃ t, oj.dst = some t ∧ t ∈ slotsOf L oi) ∨ isDyn oi.op = true ∨ (isDyn oj.op = true ∧ inL fl i = true ∧ inL p1 j = false) ∨ ((isSt oj.op || inL sl j) = true ∧ isPu oi.op = false ∧ inL fl i = false) → anc tbl i j = true)
  | [], _ => ⟨List.nodup_nil, by simp, by simp, fun pre i post j oi oj h => by simp at h⟩
  | x :: r, h => by
    simp only [pairsE, Bool.and_eq_true] at h
    obtain ⟨h1, h2⟩ := h
    obtain ⟨g1, g2, g3, g4⟩ := pairsE_sound h2
    cases hx : nthO L x with
    | none => simp [hx] at h1
    | some ox =>
      simp only [hx, Bool.and_eq_true] at h1
      obtain ⟨⟨⟨h3, h3'⟩, h3''⟩, h4⟩ := h1
      have hxL : L[x]? = some ox := by rw [← nthO_eq]; exact hx
      have hpair : ∀ j, j ∈ r → ∃ oj, nthO L j = some oj ∧ pairE L tbl fl p1 sl x ox j oj = true := by
        intro j hj
        have := List.all_eq_true.1 h4 j hj
        cases hoj : nthO L j with
        | none => simp [hoj] at this
        | some oj => simp only [hoj] at this; exact ⟨oj, rfl, this⟩
      refine ⟨List.nodup_cons.2 ⟨fun hm => ?_, g1⟩, fun i hi => ?_, fun i o hi ho => ?_, fun pre i post j oi oj hp hj hoi hoj => ?_⟩
      · obtain ⟨oj, _, hp⟩ := hpair x hm
        simp [pairE] at hp
      · rcases List.mem_cons.1 hi with rfl | hi
        · exact (List.getElem?_eq_some_iff.1 hxL).1
        · exact g2 i hi
      · rcases List.mem_cons.1 hi with rfl | hi
        · rw [hxL] at ho
          obtain rfl := Option.some.inj ho
          refine ⟨fun t ht hm => ?_, fun hf => ?_, fun hf => ?_⟩
          · rw [hits_iff.2 ⟨t, ht, hm⟩] at h3
            cases h3
          · rw [hf] at h3'
            cases hd : isDyn ox.op with
            | false => rfl
            | true => rw [hd] at h3'; cases h3'
          · rw [hf] at h3''
            cases hd : isCallV ox.op with
            | true => rfl
            | false => rw [hd] at h3''; cases h3''
        · exact g3 i o hi ho
      · cases pre with
        | nil =>
          simp only [List.nil_append, List.cons.injEq] at hp
          obtain ⟨rfl, rfl⟩ := hp
          obtain ⟨oj', h5, h6⟩ := hpair j hj
          rw [nthO_eq, hoj] at h5
          obtain rfl := Option.some.inj h5
          rw [hxL] at hoi
          obtain rfl := Option.some.inj hoi
          simp only [pairE, Bool.and_eq_true, Bool.or_eq_true, Bool.not_eq_true'] at h6
          obtain ⟨⟨_, h7⟩, h8⟩ := h6
          refine ⟨fun t ht ht' => ?_, fun hc => ?_⟩
          · rw [ht, ht'] at h7; simp [sameD] at h7
          · rcases h8 with h8 | h8
            · exfalso
              simp only [Bool.or_eq_false_iff] at h8
              obtain ⟨⟨⟨⟨q1, q2⟩, q3⟩, q5⟩, q4⟩ := h8
              rcases hc with hc | hc | hc | hc | hc
              · rw [hits_iff.2 hc] at q1; cases q1
              · rw [hits_iff.2 hc] at q2; cases q2
              · rw [hc] at q3; cases q3
              · rw [hc.1, hc.2.1, hc.2.2] at q5; cases q5
              · rw [hc.1, hc.2.1, hc.2.2] at q4; cases q4
            · exact h8
        | cons y pre =>
          simp only [List.cons_append, List.cons.injEq] at hp
          obtain ⟨rfl, rfl⟩ := hp
          exact g4 pre i post j oi oj rfl hj hoi hoj
theorem ordEOK_sound {L : List Oper} {fl p1 sl c : List Nat} (h : ordEOK L fl p1 sl c = true) : CheckedE L (ancs L []) fl p1 sl c := by
  simp only [ordEOK, Bool.and_eq_true] at h
  obtain ⟨⟨_, h2⟩, h3⟩ := h
  obtain ⟨g1, g2, g3, g4⟩ := pairsE_sound h3
  refine ⟨g1, fun i => ⟨g2 i, fun hi => ?_⟩, g3, g4⟩
  have := List.all_eq_true.1 h2 i (by simpa using hi)
  obtain ⟨x, hx, hb⟩ := List.any_eq_true.1 this
  have := Nat.eq_of_beq_eq_true hb
  subst this
  exact hx
def PendE (P : Program) (L : List Oper) (tbl : List Nat) (E : List Own) (f0 : Fr) (vd : List Nat) (val : Nat → Value) (k : Nat) (o : Oper) : Prop :=
  ∃ fk : Fr, (∀ t v, t ∈ slotsOf L o → look fk t = some v → Src L tbl f0 vd val k t v) ∧ gd L fk o.guard = some true ∧
    ∀ a : Act, KAt (opReads o.op) fk a → ∀ G os fs w, InO E os → Holds G os fs w → (execOp a.eval o).run P w = .ok (.value (val k)) w
structure InvE (P : Program) (N : Nat) (L : List Oper) (E : List Own) (fl p1 sl : List Nat) (f0 : Fr) (G : Ctx) (K : Next1) (c : List Nat) (D : Nat → Prop) (vd c' : List Nat) (val : Nat → Value) (vf : Fr) (os : List Own) (fs : List Fact) (a : Act) (w : World) : Prop where
  split : c = vd ++ c'
  sub : ∀ i, D i → i ∈ vd
  clos : ∀ i, D i → ∀ j, Binds .any L j i → D j
  defers : a.defers = []
  size : a.tmps.size = N
  act : ∀ t v, ((∃ j o, D j ∧ L[j]? = some o ∧ o.dst = some t ∧ val j = v) ∨ (look f0 t = some v ∧ ∀ j o, D j → L[j]? = some o → o.dst ≠ some t)) → a.tmps[t]? = some v
  virt : ∀ t v, look vf t = some v → (∃ j o, j ∈ vd ∧ L[j]? = some o ∧ o.dst = some t ∧ val j = v) ∨ (look f0 t = some v ∧ ∀ j o, j ∈ vd → L[j]? = some o → o.dst ≠ some t)
  pend : ∀ k o, k ∈ vd → ¬ D k → L[k]? = some o → inL fl k = false → Pend P L (ancs L []) f0 vd val w k o
  pendE : ∀ k o, k ∈ vd → ¬ D k → L[k]? = some o → inL fl k = true → PendE P L (ancs L []) E f0 vd val k o
  ent : ∀ k, k ∈ vd → ¬ D k → inL fl k = true → InO E os
  st : Holds G os fs w
  vc : VCE P L E fl p1 sl c' vf os fs K
section
variable {P : Program} {N : Nat} {L : List Oper} {E : List Own} {fl p1 sl : List Nat} {f0 : Fr} {G : Ctx} {K : Next1} {c : List Nat}
theorem srcE_next (hc : CheckedE L (ancs L []) fl p1 sl c) {vd c' : List Nat} {k : Nat} {val : Nat → Value} {vf : Fr} {o : Oper} (hs : c = vd ++ k :: c') (ho : L[k]? = some o)
    (virt : ∀ t v, look vf t = some v → (∃ j o, j ∈ vd ∧ L[j]? = some o ∧ o.dst = some t ∧ val j = v) ∨ (look f0 t = some v ∧ ∀ j o, j ∈ vd → L[j]? = some o → o.dst ≠ some t)) :
    ∀ t v, t ∈ slotsOf L o → look vf t = some v → Src L (ancs L []) f0 vd val k t v := by
  intro t v ht hl
  rcases virt t v hl with ⟨j, oj, h1, h2, h3, h4⟩ | ⟨h1, h2⟩
  · left
    refine ⟨j, oj, h1, h2, h3, h4, ?_⟩
    obtain ⟨pre, post, rfl⟩ := List.append_of_mem h1
    exact (hc.pair pre j (post ++ k :: c') k oj o (by rw [hs]; simp) (by simp) h2 ho).2 (.inl ⟨t, h3, ht⟩)
  · right
    refine ⟨h1, fun j oj hj hd => ?_⟩
    have hjc : j ∈ c := (hc.all j).2 (List.getElem?_eq_some_iff.1 hj).1
    rw [hs] at hjc
    rcases List.mem_append.1 hjc with hm | hm
    · exact absurd hd (h2 j oj hm hj)
    · rcases List.mem_cons.1 hm with rfl | hm
      · rw [ho] at hj
        obtain rfl := Option.some.inj hj
        exact absurd ht ((hc.self j o ((hc.all j).2 (List.getElem?_eq_some_iff.1 ho).1) ho).1 t hd)
      · exact (hc.pair vd k c' j o oj hs hm ho hj).2 (.inr (.inl ⟨t, hd, ht⟩))
theorem PendE.keep {tbl : List Nat} {vd : List Nat} {val : Nat → Value} {k : Nat} {o : Oper} {u : Value} {x : Nat} (hx : x ∉ vd) (hk : k ∈ vd) (h : PendE P L tbl E f0 vd val k o) :
    PendE P L tbl E f0 (vd ++ [x]) (setV val x u) k o := by
  have hkx : k ≠ x := fun e => hx (e ▸ hk)
  obtain ⟨fk, h1, h2, h3⟩ := h
  refine ⟨fk, fun t v ht hl => (h1 t v ht hl).keep hx, h2, ?_⟩
  simpa [setV, hkx] using h3
theorem virtE_keep {vd : List Nat} {val : Nat → Value} {vf : Fr} {x : Nat} {o : Oper} {u : Value} (hxvd : x ∉ vd) (ho : L[x]? = some o)
    (virt : ∀ t v, look vf t = some v → (∃ j o, j ∈ vd ∧ L[j]? = some o ∧ o.dst = some t ∧ val j = v) ∨ (look f0 t = some v ∧ ∀ j o, j ∈ vd → L[j]? = some o → o.dst ≠ some t)) :
    ∀ t v, look (putF vf o.dst u) t = some v → (∃ j o, j ∈ vd ++ [x] ∧ L[j]? = some o ∧ o.dst = some t ∧ setV val x u j = v) ∨ (look f0 t = some v ∧ ∀ j o, j ∈ vd ++ [x] → L[j]? = some o → o.dst ≠ some t) := by
  intro t v hl
  have old : look vf t = some v → o.dst ≠ some t → (∃ j o, j ∈ vd ++ [x] ∧ L[j]? = some o ∧ o.dst = some t ∧ setV val x u j = v) ∨ (look f0 t = some v ∧ ∀ j o, j ∈ vd ++ [x] → L[j]? = some o → o.dst ≠ some t) := by
    intro hl hne
    rcases virt t v hl with ⟨j, oj, h1, h2, h3, h4⟩ | ⟨h1, h2⟩
    · refine .inl ⟨j, oj, by simp [h1], h2, h3, ?_⟩
      have : j ≠ x := fun e => hxvd (e ▸ h1)
      simp [setV, this, h4]
    · refine .inr ⟨h1, fun j oj hj hjo => ?_⟩
      rcases List.mem_append.1 hj with hj | hj
      · exact h2 j oj hj hjo
      · simp only [List.mem_singleton] at hj
        subst hj
        rw [ho] at hjo
        obtain rfl := Option.some.inj hjo
        exact hne
  cases hd : o.dst with
  | none => rw [hd] at hl; exact old hl (by rw [hd]; simp)
  | some d =>
    rw [hd] at hl
    simp only [putF, look] at hl
    cases hb : Nat.beq d t with
    | true =>
      have := Nat.eq_of_beq_eq_true hb
      subst this
      simp only [hb, Option.some.injEq] at hl
      exact .inl ⟨x, o, by simp, ho, hd, by simp [setV, hl]⟩
    | false =>
      simp only [hb] at hl
      exact old hl (by rw [hd]; intro e; simp only [Option.some.injEq] at e; subst e; simp at hb)
theorem virtE_step (hc : CheckedE L (ancs L []) fl p1 sl c) {D : Nat → Prop} {vd c' : List Nat} {k : Nat} {val : Nat → Value} {vf : Fr} {os : List Own} {fs : List Fact} {a : Act} {w : World} {o : Oper}
    (h : InvE P N L E fl p1 sl f0 G K c D vd (k :: c') val vf os fs a w) (ho : L[k]? = some o) (hdyn : isDyn o.op = false) (hp1 : inL p1 k = false) :
    ∃ val' vf' fs', InvE P N L E fl p1 sl f0 G K c D (vd ++ [k]) c' val' vf' os fs' a w := by
  have hnod := hc.nodup
  rw [h.split, List.nodup_append] at hnod
  have hk : k ∉ vd := fun hm => hnod.2.2 k hm k (by simp) rfl
  have src := srcE_next hc h.split ho h.virt
  have hvc := h.vc
  rw [VCE_cons _ _ _ _ _ _ _ _ _ _ _ _ _ ho] at hvc
  have fin : ∀ (u : Value) (fs' : List Fact), Holds G os fs' w → VCE P L E fl p1 sl c' (putF vf o.dst u) os fs' K →
      (inL fl k = false → (gd L vf o.guard = some false ∧ u = undef) ∨ (gd L vf o.guard = some true ∧ ∀ (a : Act) (w' : World), KAt (opReads o.op) vf a → (isPu o.op = true ∨ Below w.heap.size w w') → (execOp a.eval o).run P w' = .ok (.value u) w')) →
      (inL fl k = true → InO E os ∧ gd L vf o.guard = some true ∧ ∀ a : Act, KAt (opReads o.op) vf a → ∀ G os fs w, InO E os → Holds G os fs w → (execOp a.eval o).run P w = .ok (.value u) w) →
      ∃ val' vf' fs', InvE P N L E fl p1 sl f0 G K c D (vd ++ [k]) c' val' vf' os fs' a w := by
    intro u fs' hst hv hp hpE
    refine ⟨setV val k u, putF vf o.dst u, fs', by rw [h.split]; simp, fun i hi => by simp [h.sub i hi], h.clos, h.defers, h.size, ?_, virtE_keep hk ho h.virt, ?_, ?_, ?_, hst, hv⟩
    · intro t v ht
      refine h.act t v ?_
      rcases ht with ⟨j, oj, h1, h2, h3, h4⟩ | ht
      · have : j ≠ k := fun e => hk (e ▸ h.sub j h1)
        exact .inl ⟨j, oj, h1, h2, h3, by simpa [setV, this] using h4⟩
      · exact .inr ht
    · intro x ox hx hnD hox hfl
      rcases List.mem_append.1 hx with hx | hx
      · exact (h.pend x ox hx hnD hox hfl).keep hk hx (.inr (Below.refl _ _))
      · simp only [List.mem_singleton] at hx
        subst hx
        rw [ho] at hox
        obtain rfl := Option.some.inj hox
        refine ⟨hdyn, vf, fun t v ht hl => (src t v ht hl).keep hk, ?_⟩
        rcases hp hfl with ⟨h1, h2⟩ | ⟨h1, h2⟩
        · exact .inl ⟨h1, by simp [setV, h2]⟩
        · exact .inr ⟨h1, fun a w' ha hb => by simpa [setV] using h2 a w' ha hb⟩
    · intro x ox hx hnD hox hfl
      rcases List.mem_append.1 hx with hx | hx
      · exact (h.pendE x ox hx hnD hox hfl).keep hk hx
      · simp only [List.mem_singleton] at hx
        subst hx
        rw [ho] at hox
        obtain rfl := Option.some.inj hox
        obtain ⟨_, h1, h2⟩ := hpE hfl
        exact ⟨vf, fun t v ht hl => (src t v ht hl).keep hk, h1, by simpa [setV] using h2⟩
    · intro x hx hnD hfl
      rcases List.mem_append.1 hx with hx | hx
      · exact h.ent x hx hnD hfl
      · simp only [List.mem_singleton] at hx
        subst hx
        exact (hpE hfl).1
  have hsk : inL sl k = false := by
    cases e : inL sl k with
    | false => rfl
    | true =>
      have := callV_dyn ((hc.self k o ((hc.all k).2 (List.getElem?_eq_some_iff.1 ho).1) ho).2.2 e)
      rw [hdyn] at this; cases this
  cases hfl : inL fl k with
  | true =>
    simp only [hfl, selE] at hvc
    cases hg : gd L vf o.guard with
    | none => simp only [hg, orF] at hvc
    | some b =>
      cases b with
      | false => simp only [hg, orF] at hvc
      | true =>
        simp only [hg, orF] at hvc
        obtain ⟨v, h1, h2, h3⟩ := hvc.out
        exact fin v fs h.st h3 (fun e => by rw [hfl] at e; cases e) (fun _ => ⟨h2, hg, h1⟩)
  | false =>
  have nE : ∀ {p : Prop}, inL fl k = true → p := fun e => by rw [hfl] at e; cases e
  simp only [hfl, selE] at hvc
  cases hg : gd L vf o.guard with
  | none => simp only [hg, orF] at hvc
  | some b =>
    cases b with
    | false => simp only [hg, orF] at hvc; exact fin undef fs h.st hvc (fun _ => .inl ⟨hg, rfl⟩) nE
    | true =>
      simp only [hg, orF] at hvc
      cases hv : detv vf o.op with
      | some v => simp only [hv, orV] at hvc; exact fin v fs h.st hvc (fun _ => .inr ⟨hg, fun a w' ha _ => detv_soundK P ha hv w'⟩) nE
      | none =>
        simp only [hv, orV, hp1, andB, hsk, noB] at hvc
        cases hfa : isFa o.op with
        | true =>
          obtain ⟨s, hs1, hs2⟩ := fa_sem o hfa hvc
          obtain ⟨v, fs', h1, h2, h3⟩ := hs2 G w h.st
          exact fin v fs' h3 h2 (fun _ => .inr ⟨hg, fun a w' ha _ => by rw [hs1 a ha]; exact h1 w' trivial⟩) nE
        | false =>
        obtain ⟨s, hs⟩ := DoK.sem o hvc
        obtain ⟨v, fs', h1, h2, h3⟩ := hs.det hdyn G w h.st
        exact fin v fs' h3 h2 (fun _ => .inr ⟨hg, fun a w' ha hb => by
          rcases hb with hb | hb
          · exact (pu_dok hb hfa hvc).elim
          · rw [hs.same a ha]; exact h1 w' hb⟩) nE
theorem dst_at {L : List Oper} {N k : Nat} {o : Oper} (hd : dstsOK N L = true) (h : L[k]? = some o) : dstOK N o.dst = true := by
  induction L generalizing k with
  | nil => simp at h
  | cons x r ih =>
    simp only [dstsOK, Bool.and_eq_true] at hd
    cases k with
    | zero => simp only [List.getElem?_cons_zero, Option.some.injEq] at h; subst h; exact hd.1
    | succ k => exact ih hd.2 (by simpa using h)
theorem doE_pend (hc : CheckedE L (ancs L []) fl p1 sl c) (hdst : dstsOK N L = true) {Q : Post} {D : Nat → Prop} {vd c' : List Nat} {k : Nat} {val : Nat → Value} {vf : Fr} {os : List Own} {fs : List Fact} {a : Act} {w : World} {o : Oper} {rest : List Nat}
    (h : InvE P N L E fl p1 sl f0 G K c D vd c' val vf os fs a w) (ho : L[k]? = some o) (hk : k ∈ vd) (hnD : ¬ D k) (hready : ∀ j, Binds .any L j k → D j)
    (next : ∀ a', InvE P N L E fl p1 sl f0 G K c (fun i => D i ∨ i = k) vd c' val vf os fs a' w → wpOps P L.toArray (Qhat N G Q) rest a' w) : wpOps P L.toArray (Qhat N G Q) (k :: rest) a w := by
  have hdk := dst_at hdst ho
  have distinct : ∀ j oj, D j → L[j]? = some oj → ∀ t, o.dst = some t → oj.dst ≠ some t := by
    intro j oj hj hjo t ht
    have hjv := h.sub j hj
    have hne : j ≠ k := fun e => hnD (e ▸ hj)
    have hjc : j ∈ c := by rw [h.split]; simp [hjv]
    have hkc : k ∈ c := by rw [h.split]; simp [hk]
    obtain ⟨pre, post, hp⟩ := List.append_of_mem hjc
    rw [hp] at hkc
    rcases List.mem_append.1 hkc with hm | hm
    · obtain ⟨pre', post', hp'⟩ := List.append_of_mem hm
      exact (hc.pair pre' k (post' ++ j :: post) j o oj (by rw [hp, hp']; simp) (by simp) ho hjo).1 t ht
    · rcases List.mem_cons.1 hm with hm | hm
      · exact absurd hm.symm hne
      · intro hjt
        exact (hc.pair pre j post k oj o hp hm hjo ho).1 t hjt ht
  have inv' : InvE P N L E fl p1 sl f0 G K c (fun i => D i ∨ i = k) vd c' val vf os fs (a.put o.dst (val k)) w := by
    refine ⟨h.split, fun i hi => hi.elim (h.sub i) (fun e => e ▸ hk), fun i hi j hj => ?_, ?_, ?_, act_put hdk h.size ho distinct h.act, h.virt, fun x ox hx hnx => h.pend x ox hx (fun hx' => hnx (.inl hx')), fun x ox hx hnx => h.pendE x ox hx (fun hx' => hnx (.inl hx')), fun x hx hnx => h.ent x hx (fun hx' => hnx (.inl hx')), h.st, h.vc⟩
    · rcases hi with hi | rfl
      · exact .inl (h.clos i hi j hj)
      · exact .inl (hready j hj)
    · cases hd : o.dst <;> simp [Act.put, h.defers]
    · cases hd : o.dst <;> simp [Act.put, h.size]
  have ho' : L.toArray[k]? = some o := by simpa using ho
  simp only [wpOps, ho']
  cases hfl : inL fl k with
  | true =>
    obtain ⟨fk, hsrc, hg, hrun⟩ := h.pendE k o hk hnD ho hfl
    have hkat : KAt (slotsOf L o) fk a := kat_of_src h.clos hnD hready h.act hsrc
    have hkat' : KAt (opReads o.op) fk a := fun t v ht => hkat t v (List.mem_append_left _ ht)
    rw [gd_soundK hkat hg]
    simp only [if_true]
    left
    unfold Oper.wp
    rw [hrun a hkat' G os fs w (h.ent k hk hnD hfl) h.st]
    exact next _ inv'
  | false =>
  obtain ⟨_, fk, hsrc, hcase⟩ := h.pend k o hk hnD ho hfl
  have hkat : KAt (slotsOf L o) fk a := kat_of_src h.clos hnD hready h.act hsrc
  have hkat' : KAt (opReads o.op) fk a := fun t v ht => hkat t v (List.mem_append_left _ ht)
  rcases hcase with ⟨h1, h2⟩ | ⟨h1, h2⟩
  · rw [gd_soundK hkat h1]
    simp only [Bool.false_eq_true, if_false]
    rw [← h2]
    exact next _ inv'
  · rw [gd_soundK hkat h1]
    simp only [if_true]
    left
    unfold Oper.wp
    rw [h2 a w hkat' (.inr (Below.refl _ _))]
    exact next _ inv'
theorem doE_dyn (hc : CheckedE L (ancs L []) fl p1 sl c) (hdst : dstsOK N L = true) {Q : Post} {D : Nat → Prop} {vd c' : List Nat} {k : Nat} {val : Nat → Value} {vf : Fr} {os : List Own} {fs : List Fact} {a : Act} {w : World} {o : Oper} {rest : List Nat}
    (h : InvE P N L E fl p1 sl f0 G K c D vd (k :: c') val vf os fs a w) (ho : L[k]? = some o) (hdyn : isDyn o.op = true) (hnD : ¬ D k) (hready : ∀ j, Binds .any L j k → D j)
    (next : ∀ val' vf' os' fs' a' w', InvE P N L E fl p1 sl f0 G K c (fun i => D i ∨ i = k) (vd ++ [k]) c' val' vf' os' fs' a' w' → wpOps P L.toArray (Qhat N G Q) rest a' w') : wpOps P L.toArray (Qhat N G Q) (k :: rest) a w := by
  have hdk := dst_at hdst ho
  have hnod := hc.nodup
  rw [h.split, List.nodup_append] at hnod
  have hk : k ∉ vd := fun hm => hnod.2.2 k hm k (by simp) rfl
  have src := srcE_next hc h.split ho h.virt
  have hkat : KAt (slotsOf L o) vf a := kat_of_src h.clos hnD hready h.act src
  have hkat' : KAt (opReads o.op) vf a := fun t v ht => hkat t v (List.mem_append_left _ ht)
  have distinct : ∀ j oj, D j → L[j]? = some oj → ∀ t, o.dst = some t → oj.dst ≠ some t := by
    intro j oj hj hjo t ht hjt
    obtain ⟨pre, post, hp⟩ := List.append_of_mem (h.sub j hj)
    exact (hc.pair pre j (post ++ k :: c') k oj o (by rw [h.split, hp]; simp) (by simp) hjo ho).1 t hjt ht
  have hfk : inL fl k = false := by
    cases e : inL fl k with
    | false => rfl
    | true =>
      have := (hc.self k o ((hc.all k).2 (List.getElem?_eq_some_iff.1 ho).1) ho).2.1 e
      rw [hdyn] at this; cases this
  have hvc := h.vc
  rw [VCE_cons _ _ _ _ _ _ _ _ _ _ _ _ _ ho] at hvc
  simp only [hfk, selE] at hvc
  have early : ∀ x, x ∈ vd → ¬ D x → inL fl x = true → inL p1 k = true := fun x hx hnx hfx => by
    cases e : inL p1 k with
    | true => rfl
    | false =>
      exfalso
      obtain ⟨pre, post, hp⟩ := List.append_of_mem hx
      have hxc : x < L.length := (hc.all x).1 (by rw [h.split]; simp [hx])
      have := (hc.pair pre x (post ++ k :: c') k L[x] o (by rw [h.split, hp]; simp) (by simp) (by simp [hxc]) ho).2 (.inr (.inr (.inr (.inl ⟨hdyn, hfx, e⟩))))
      exact hnx ((anc_tc this).closed h.clos hready)
  have inv' : ∀ (u : Value) (os' : List Own) (fs' : List Fact) (w' : World), Holds G os' fs' w' → VCE P L E fl p1 sl c' (putF vf o.dst u) os' fs' K → ((∀ i o, i ∈ vd → L[i]? = some o → D i ∨ isPu o.op = true ∨ inL fl i = true) ∨ Below w.heap.size w w') →
      ((∃ x, x ∈ vd ∧ ¬ D x ∧ inL fl x = true) → InO E os') →
      InvE P N L E fl p1 sl f0 G K c (fun i => D i ∨ i = k) (vd ++ [k]) c' (setV val k u) (putF vf o.dst u) os' fs' (a.put o.dst u) w' := by
    intro u os' fs' w' hst hv hpd hE
    have hset : setV val k u k = u := by simp [setV]
    have old : ∀ x, x ∈ vd ++ [k] → ¬ (D x ∨ x = k) → x ∈ vd ∧ ¬ D x := fun x hx hnx => by
      refine ⟨?_, fun hd => hnx (.inl hd)⟩
      rcases List.mem_append.1 hx with hx | hx
      · exact hx
      · exact absurd (.inr (by simpa using hx)) hnx
    refine ⟨by rw [h.split]; simp, fun i hi => ?_, fun i hi j hj => ?_, ?_, ?_, ?_, virtE_keep hk ho h.virt, fun x ox hx hnx hox hfx => ?_, fun x ox hx hnx hox hfx => ?_, fun x hx hnx hfx => ?_, hst, hv⟩
    · rcases hi with hi | rfl
      · simp [h.sub i hi]
      · simp
    · rcases hi with hi | rfl
      · exact .inl (h.clos i hi j hj)
      · exact .inl (hready j hj)
    · cases hd : o.dst <;> simp [Act.put, h.defers]
    · cases hd : o.dst <;> simp [Act.put, h.size]
    · have := act_put (val := setV val k u) (f0 := f0) (D := D) hdk h.size ho distinct (fun t v ht => h.act t v (by
        rcases ht with ⟨j, oj, h1, h2, h3, h4⟩ | ht
        · have : j ≠ k := fun e => hnD (e ▸ h1)
          exact .inl ⟨j, oj, h1, h2, h3, by simpa [setV, this] using h4⟩
        · exact .inr ht))
      rw [hset] at this
      exact this
    · obtain ⟨hxv, hnx'⟩ := old x hx hnx
      rcases hpd with hpd | hb
      · rcases hpd x ox hxv hox with h1 | h1 | h1
        · exact absurd h1 hnx'
        · exact (h.pend x ox hxv hnx' hox hfx).keep hk hxv (.inl h1)
        · rw [hfx] at h1; cases h1
      · exact (h.pend x ox hxv hnx' hox hfx).keep hk hxv (.inr hb)
    · obtain ⟨hxv, hnx'⟩ := old x hx hnx
      exact (h.pendE x ox hxv hnx' hox hfx).keep hk hxv
    · obtain ⟨hxv, hnx'⟩ := old x hx hnx
      exact hE ⟨x, hxv, hnx', hfx⟩
  have still : (∃ x, x ∈ vd ∧ ¬ D x ∧ inL fl x = true) → InO E os := fun ⟨x, h1, h2, h3⟩ => h.ent x h1 h2 h3
  have ho' : L.toArray[k]? = some o := by simpa using ho
  simp only [wpOps, ho']
  cases hg : gd L vf o.guard with
  | none => simp only [hg, orF] at hvc
  | some b =>
    rw [gd_soundK hkat hg]
    cases b with
    | false =>
      simp only [hg, orF] at hvc
      simp only [Bool.false_eq_true, if_false]
      exact next _ _ _ _ _ _ (inv' undef os fs w h.st hvc (.inr (Below.refl _ _)) still)
    | true =>
      simp only [hg, orF] at hvc
      simp only [if_true]
      left
      unfold Oper.wp
      cases hv : detv vf o.op with
      | some v =>
        simp only [hv, orV] at hvc
        rw [detv_soundK P hkat' hv w]
        exact next _ _ _ _ _ _ (inv' v os fs w h.st hvc (.inr (Below.refl _ _)) still)
      | none =>
        simp only [hv, orV] at hvc
        have main : Comes1 P (fun v w' => ((∀ i o, i ∈ vd → L[i]? = some o → D i ∨ isPu o.op = true ∨ inL fl i = true) ∨ Below w.heap.size w w') ∧ ∃ os' fs', andB (inL p1 k) (InO E os') (VCE P L E fl p1 sl c' (putF vf o.dst v) os' fs' K) ∧ Holds G os' fs' w') ((execOp a.eval o).run P w) := by
          have stl : (isSt o.op || inL sl k) = true → ∀ i oi, i ∈ vd → L[i]? = some oi → D i ∨ isPu oi.op = true ∨ inL fl i = true := fun hst i oi hi hoi => by
            cases hpu : isPu oi.op with
            | true => exact .inr (.inl rfl)
            | false =>
            cases hfi : inL fl i with
            | true => exact .inr (.inr rfl)
            | false =>
            left
            obtain ⟨pre, post, hp⟩ := List.append_of_mem hi
            exact (anc_tc ((hc.pair pre i (post ++ k :: c') k oi o (by rw [h.split, hp]; simp) (by simp) hoi ho).2 (.inr (.inr (.inr (.inr ⟨hst, hpu, hfi⟩)))))).closed h.clos hready
          cases hsk : inL sl k with
          | true =>
            simp only [hsk, noB] at hvc
            obtain ⟨s, hs1, hs2⟩ := DoK.semD o ((hc.self k o ((hc.all k).2 (List.getElem?_eq_some_iff.1 ho).1) ho).2.2 hsk) hvc
            rw [hs1 a hkat']
            exact (hs2 G w h.st).mono fun v w' h2 => ⟨.inl (stl (by rw [hsk, Bool.or_true])), h2⟩
          | false =>
          simp only [hsk, noB] at hvc
          obtain ⟨s, hs⟩ := DoK.sem o hvc
          rw [hs.same a hkat']
          cases hst : isSt o.op with
          | false => exact (hs.grw hst G w h.st).mono fun v w' ⟨h1, h2⟩ => ⟨.inr h1, h2⟩
          | true => exact (hs.dyn G w h.st).mono fun v w' h2 => ⟨.inl (stl (by rw [hst, Bool.true_or])), h2⟩
        have fin : ∀ (v : Value) (w' : World), (((∀ i o, i ∈ vd → L[i]? = some o → D i ∨ isPu o.op = true ∨ inL fl i = true) ∨ Below w.heap.size w w') ∧ ∃ os' fs', andB (inL p1 k) (InO E os') (VCE P L E fl p1 sl c' (putF vf o.dst v) os' fs' K) ∧ Holds G os' fs' w') →
            ∃ os' fs', InvE P N L E fl p1 sl f0 G K c (fun i => D i ∨ i = k) (vd ++ [k]) c' (setV val k v) (putF vf o.dst v) os' fs' (a.put o.dst v) w' := by
          rintro v w' ⟨h1, os', fs', h2, h3⟩
          cases hp1 : inL p1 k with
          | true =>
            rw [hp1] at h2
            exact ⟨os', fs', inv' v os' fs' w' h3 h2.2 h1 fun _ => h2.1⟩
          | false =>
            rw [hp1] at h2
            refine ⟨os', fs', inv' v os' fs' w' h3 h2 h1 fun ⟨x, g1, g2, g3⟩ => ?_⟩
            have := early x g1 g2 g3
            rw [hp1] at this; cases this
        generalize (execOp a.eval o).run P w = res at main
        match res, main with
        | .ok (.value v) w', hm =>
          obtain ⟨os', fs', hi⟩ := fin v w' hm
          exact next _ _ _ _ _ _ hi
        | .ok .skip w', hm =>
          obtain ⟨os', fs', hi⟩ := fin undef w' hm
          exact next _ _ _ _ _ _ hi
        | .ok (.enter g args) w', hcall =>
          refine Calls.mono hcall ?_
          rintro e w'' ⟨v, rfl, hm⟩
          obtain ⟨os', fs', hi⟩ := fin v w'' hm
          exact next _ _ _ _ _ _ hi
theorem catchE_up (hc : CheckedE L (ancs L []) fl p1 sl c) : ∀ (pre : List Nat) {D : Nat → Prop} {vd c' : List Nat} {val : Nat → Value} {vf : Fr} {fs : List Fact} {os : List Own} {a : Act} {w : World},
    InvE P N L E fl p1 sl f0 G K c D vd (pre ++ c') val vf os fs a w → (∀ x, x ∈ pre → inL p1 x = false ∧ ∀ o, L[x]? = some o → isDyn o.op = false) →
    ∃ val' vf' fs', InvE P N L E fl p1 sl f0 G K c D (vd ++ pre) c' val' vf' os fs' a w
  | [], D, vd, c', val, vf, fs, os, a, w, h, _ => ⟨val, vf, fs, by simpa using h⟩
  | x :: pre, D, vd, c', val, vf, fs, os, a, w, h, hd => by
    have hx : x < L.length := (hc.all x).1 (by rw [h.split]; simp)
    obtain ⟨val1, vf1, fs1, h1⟩ := virtE_step hc h (show L[x]? = some L[x] by simp [hx]) ((hd x (by simp)).2 _ (by simp [hx])) (hd x (by simp)).1
    obtain ⟨val2, vf2, fs2, h2⟩ := catchE_up hc pre (vd := vd ++ [x]) h1 (fun y hy => hd y (by simp [hy]))
    exact ⟨val2, vf2, fs2, by simpa using h2⟩
theorem simE (hc : CheckedE L (ancs L []) fl p1 sl c) (hp : ∀ x o, inL p1 x = true → L[x]? = some o → isDyn o.op = true) (hdst : dstsOK N L = true) {Q : Post} (hQ : Q .normal = K) : ∀ (l : List Nat) (D : Nat → Prop) {vd c' : List Nat} {val : Nat → Value} {vf : Fr} {os : List Own} {fs : List Fact} {a : Act} {w : World},
    InvE P N L E fl p1 sl f0 G K c D vd c' val vf os fs a w → (∀ i, i < L.length ↔ D i ∨ i ∈ l) → l.Nodup → (∀ i, i ∈ l → ¬ D i) →
    (∀ pre i post, l = pre ++ i :: post → ∀ j, Binds .any L j i → D j ∨ j ∈ pre) → wpOps P L.toArray (Qhat N G Q) l a w
  | [], D, vd, c', val, vf, os, fs, a, w, h, hall, _, _, _ => by
    have hc' : c' = [] := by
      cases c' with
      | nil => rfl
      | cons x r =>
        exfalso
        have hx : x ∈ c := by rw [h.split]; simp
        have := h.sub x (((hall x).1 ((hc.all x).1 hx)).resolve_right (by simp))
        have hnod := hc.nodup
        rw [h.split, List.nodup_append] at hnod
        exact hnod.2.2 x this x (by simp) rfl
    subst hc'
    have hv := h.vc
    refine ⟨vf, os, fs, ⟨h.defers, h.size, fun t v ht => h.act t v ?_⟩, h.st, by rw [hQ]; exact hv⟩
    have hD : ∀ j, j ∈ vd → D j := fun j hj => ((hall j).1 ((hc.all j).1 (by rw [h.split]; simp [hj]))).resolve_right (by simp)
    rcases h.virt t v ht with ⟨j, o, h1, h2, h3, h4⟩ | ⟨h1, h2⟩
    · exact .inl ⟨j, o, hD j h1, h2, h3, h4⟩
    · exact .inr ⟨h1, fun j o hj => h2 j o (h.sub j hj)⟩
  | i :: rest, D, vd, c', val, vf, os, fs, a, w, h, hall, hnod, hdis, hbef => by
    have hi : i < L.length := (hall i).2 (.inr (by simp))
    have ho : L[i]? = some L[i] := by simp [hi]
    have hnD : ¬ D i := hdis i (by simp)
    have hready : ∀ j, Binds .any L j i → D j := fun j hj => (hbef [] i rest rfl j hj).resolve_right (by simp)
    have nx : ∀ {vd c' : List Nat} {val : Nat → Value} {vf : Fr} {os : List Own} {fs : List Fact} {a : Act} {w : World},
        InvE P N L E fl p1 sl f0 G K c (fun x => D x ∨ x = i) vd c' val vf os fs a w → wpOps P L.toArray (Qhat N G Q) rest a w := by
      intro vd c' val vf os fs a w h'
      refine simE hc hp hdst hQ rest (fun x => D x ∨ x = i) h' (fun x => ?_) (List.nodup_cons.1 hnod).2 (fun x hx hx' => ?_) (fun pre x post hp j hj => ?_)
      · rw [hall x, List.mem_cons]
        constructor
        · rintro (h | h | h)
          · exact .inl (.inl h)
          · exact .inl (.inr h)
          · exact .inr h
        · rintro ((h | h) | h)
          · exact .inl h
          · exact .inr (.inl h)
          · exact .inr (.inr h)
      · rcases hx' with hx' | rfl
        · exact hdis x (by simp [hx]) hx'
        · exact (List.nodup_cons.1 hnod).1 hx
      · rcases hbef (i :: pre) x post (by rw [hp]; rfl) j hj with hj' | hj'
        · exact .inl (.inl hj')
        · rcases List.mem_cons.1 hj' with rfl | hj'
          · exact .inl (.inr rfl)
          · exact .inr hj'
    by_cases hiv : i ∈ vd
    · exact doE_pend hc hdst h ho hiv hnD hready fun a' h' => nx h'
    · have hic : i ∈ c := (hc.all i).2 hi
      rw [h.split] at hic
      obtain ⟨pre, post, hpp⟩ := List.append_of_mem ((List.mem_append.1 hic).resolve_left hiv)
      have hpre0 : ∀ x, x ∈ pre → ∀ o, L[x]? = some o → isDyn o.op = false := by
        intro x hx o hox
        cases hd : isDyn o.op with
        | false => rfl
        | true =>
          exfalso
          obtain ⟨p1, p2, hp2⟩ := List.append_of_mem hx
          have := (hc.pair (vd ++ p1) x (p2 ++ i :: post) i o L[i] (by rw [h.split, hpp, hp2]; simp) (by simp) hox ho).2 (.inr (.inr (.inl hd)))
          have hDx := (anc_tc this).closed h.clos hready
          have hxv := h.sub x hDx
          have hn := hc.nodup
          rw [h.split, List.nodup_append] at hn
          exact hn.2.2 x hxv x (by rw [hpp]; simp [hx]) rfl
      have np : ∀ x, x < L.length → (∀ o, L[x]? = some o → isDyn o.op = false) → inL p1 x = false := fun x hx hd => by
        cases e : inL p1 x with
        | false => rfl
        | true =>
          have h1 := hp x L[x] e (by simp [hx])
          rw [hd L[x] (by simp [hx])] at h1; cases h1
      have hpre : ∀ x, x ∈ pre → inL p1 x = false ∧ ∀ o, L[x]? = some o → isDyn o.op = false := fun x hx =>
        ⟨np x ((hc.all x).1 (by rw [h.split, hpp]; simp [hx])) (hpre0 x hx), hpre0 x hx⟩
      rw [hpp] at h
      obtain ⟨val1, vf1, fs1, h1⟩ := catchE_up hc pre h hpre
      cases hdyn : isDyn L[i].op with
      | false =>
        obtain ⟨val2, vf2, fs2, h2⟩ := virtE_step hc h1 ho hdyn (np i hi fun o hox => by rw [ho] at hox; obtain rfl := Option.some.inj hox; exact hdyn)
        exact doE_pend hc hdst h2 ho (by simp) hnD hready fun a' h' => nx h'
      | true => exact doE_dyn hc hdst h1 ho hdyn hnD hready fun _ _ _ _ _ _ h' => nx h'
end
def p1OK (L : List Oper) (p1 : List Nat) : Bool :=
  p1.all fun x => match nthO L x with
    | some o => isDyn o.op
    | none => true
theorem ordE_go {P : Program} {N : Nat} {L : List Oper} {f : Fr} {os : List Own} {fs : List Fact} {K : Next1} (E : List Own) (fl p1 sl c : List Nat) (hok : ordEOK L fl p1 sl c = true) (hp1 : p1OK L p1 = true) (hdst : dstsOK N L = true)
    (k : VCE P L E fl p1 sl c f os fs K) : OrdK P N L f os fs K := by
  refine ⟨fun G Q hQ l hord a w hk hw => ?_⟩
  have hc := ordEOK_sound hok
  have hp : ∀ x o, inL p1 x = true → L[x]? = some o → isDyn o.op = true := fun x o h ho => by
    obtain ⟨y, hy, hb⟩ := List.any_eq_true.1 h
    have := Nat.eq_of_beq_eq_true hb
    subst this
    have h2 := List.all_eq_true.1 hp1 x hy
    rw [nthO_eq, ho] at h2
    exact h2
  refine simE (E := E) (f0 := f) hc hp hdst hQ _ (fun _ => False) (vd := []) (c' := c) (val := fun _ => undef) (vf := f) (os := os) (fs := fs) ?_ (fun i => by simpa using (hord.all i).symm) hord.nodup (fun _ _ h => h) (fun pre i post hp j hj => .inr (hord.before pre i post hp j hj))
  exact ⟨rfl, fun _ h => h.elim, fun _ h => h.elim, hk.defers, hk.size, fun t v ht => hk.holds t v (by
    rcases ht with ⟨_, _, h, _⟩ | h
    · exact h.elim
    · exact h.1), fun t v ht => .inr ⟨ht, fun j o hj => by simp at hj⟩, fun k o hk => by simp at hk, fun k o hk => by simp at hk, fun k hk => by simp at hk, hw, k⟩
theorem lookD {P : Program} {E : List Own} {f : Fr} {o : Oper} {os : List Own} {fs : List Fact} {K : Cont} {v : Value} (hE : InO E os) (hd : isDyn o.op = false)
    (hl : ∀ (os : List Own) (fs : List Fact), InO E os → DoK P true f o.type os fs (fun u _ _ => u = v) o.op) (k : K v os fs) : DoE P E f o os fs K := by
  refine ⟨v, fun a hk G os fs w hE hw => ?_, hE, k⟩
  obtain ⟨s, hs⟩ := DoK.sem o (hl os fs hE)
  obtain ⟨u, fs', h1, h2, _⟩ := hs.det hd G w hw
  subst h2
  rw [hs.same a hk]
  exact h1 w (Below.refl _ _)
theorem eGo {p q : Prop} (h : p) (k : q) : p ∧ q := ⟨h, k⟩
theorem draw_sl {P : Program} {N id : Nat} {L : List Oper} {f : Fr} {os : List Own} {fs : List Fact} {K : Next1} {v : Value} {size n : Nat} {el : Nat → Dat} (hm : (v, .sl size n el) ∈ fs)
    (k : (∃ a c, v = .slice a n c) → DrawK P N id L f os fs K) : DrawK P N id L f os fs K := by
  refine ⟨fun G Q hQ a w hk hw => ?_⟩
  obtain ⟨b, c, e, _⟩ := (hw.facts _ hm).sl
  exact (k ⟨b, c, e⟩).out G Q hQ a w hk hw
theorem nthOwn_of_mem {E : Own} {os : List Own} (h : E ∈ os) : ∃ pos, nthOwn os pos = some E := by
  induction os with
  | nil => cases h
  | cons x r ih =>
    rcases List.mem_cons.1 h with rfl | h
    · exact ⟨0, rfl⟩
    · obtain ⟨p, hp⟩ := ih h
      exact ⟨p + 1, hp⟩
theorem lookE4 {P : Program} {t : TypeId} {r o : Nat} {a b c d : Value} [ht : TOne P t] (k : Nat) (ho : o = k) (hk : k < 4) (os : List Own) (fs : List Fact) (h : InO [own4 (ptr0 r 0) a b c d] os) : LoadK P t (ptr0 r o) os fs fun u _ _ => u = nth4 a b c d k := by
  obtain ⟨pos, hp⟩ := nthOwn_of_mem h.1
  exact load4 pos k hp ho hk rfl
end Go.Proofs.YtjebljkoiaojaaaGreat
