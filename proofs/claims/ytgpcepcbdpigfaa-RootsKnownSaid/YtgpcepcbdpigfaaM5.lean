/- The law RootsKnown, lifted. No condition. -/
import Derived.Test.YtgpcepcbdpigfaaM4
import Derived.Test.YtgpcepcbdpigfaaRows
import Derived.OpenShut
import Derived.Below
import Derived.Lib.SmallJoins
set_option linter.unusedVariables false
set_option linter.unusedSimpArgs false
namespace Go.Proofs.Ytgpcepcbdpigfaa
def lins (x : Int) : List Int → Int
  | [] => 1
  | r :: A => (x - r) * lins x A
theorem lins_zero {x : Int} : ∀ {A : List Int}, lins x A = 0 ↔ x ∈ A
  | [] => by simp [lins]
  | r :: A => by
    rw [lins, Int.mul_eq_zero, lins_zero, List.mem_cons]
    constructor <;> rintro (h | h)
    · exact .inl (by omega)
    · exact .inr h
    · exact .inl (by omega)
    · exact .inr h
theorem split_off : ∀ {A : List Int} {s : List Int}, A.Nodup → (∀ r, r ∈ A → pev s r = 0) → ∃ v, ∀ x, pev s x = lins x A * pev v x
  | [], s, _, _ => ⟨s, fun x => by simp [lins]⟩
  | r :: A, s, hn, h => by
    have hr := h r (List.mem_cons_self ..)
    have e : ∀ x, pev s x = (x - r) * pev (syn r s) x := fun x => by rw [syn_ev r x s, hr]; omega
    have hn' := List.nodup_cons.1 hn
    obtain ⟨v, hv⟩ := split_off (A := A) (s := syn r s) hn'.2 fun t ht => by
      have h1 := h t (List.mem_cons_of_mem _ ht)
      rw [e t] at h1
      rcases Int.mul_eq_zero.1 h1 with h2 | h2
      · exact absurd (show t = r by omega) fun g => hn'.1 (g ▸ ht)
      · exact h2
    exact ⟨v, fun x => by rw [e, hv, lins]; grind⟩
theorem strip {v z : List Int} {r : Int} {c : List Int} (hv : pev v r ≠ 0) (h : Dv v c) (e : ∀ x, pev c x = (x - r) * pev z x) : Dv v z := by
  obtain ⟨y, hy⟩ := h
  have h1 := e r
  rw [hy, Int.sub_self, Int.zero_mul] at h1
  have h2 : pev y r = 0 := (Int.mul_eq_zero.1 h1).resolve_left hv
  have d2 : 0 < dg [-r, 1] := by show 0 < (nrm [-r, 1]).length; simp [nrm]
  have h3 := cancel (a := [-r, 1]) (u := z) (v := pmul v (syn r y)) d2 fun x => by
    rw [ev_pmul]
    have f1 := e x
    have f2 := hy x
    have f3 := syn_ev r x y
    rw [h2] at f3
    have f4 : pev [-r, 1] x = x - r := by simp [pev]; omega
    rw [f4, ← f1, f2, f3]; grind
  exact ⟨syn r y, fun x => by rw [h3, ev_pmul]⟩
inductive Made (q : List Int) : List Int → List Int → Prop
  | base {p : List Int} : (∀ x, pev p x = pev q x) → Made q p []
  | more {p p' A : List Int} (r : Int) : Made q p A → (∀ x, pev p' x = (x - r) * pev p x) → Made q p' (r :: A)
theorem Made.strip {q p A v : List Int} (h : Made q p A) (hv : ∀ r, r ∈ A → pev v r ≠ 0) (hd : Dv v p) : Dv v q := by
  induction h with
  | base e => exact hd.ext (fun _ => rfl) e
  | more r _ e ih => exact ih (fun t ht => hv t (List.mem_cons_of_mem _ ht)) (Go.Proofs.Ytgpcepcbdpigfaa.strip (hv r (List.mem_cons_self ..)) hd e)
theorem Made.root {q p A : List Int} (h : Made q p A) (hq : ∀ x, pev q x ≠ 0) (x : Int) : pev p x = 0 ↔ x ∈ A := by
  induction h with
  | base e => rw [e]; simp [hq x]
  | more r _ e ih =>
    rw [e, Int.mul_eq_zero, ih, List.mem_cons]
    constructor <;> rintro (h | h)
    · exact .inl (by omega)
    · exact .inr h
    · exact .inl (by omega)
    · exact .inr h
theorem gh_line (w r u : Int) : gh [-r, 1] w u = w * (u - r * w) := by
  simp [gh]; grind
theorem lins_tch {v : List Int} {w : Nat} {u : Int} (hw : 1 ≤ w) (hv : ¬ tch v w u) : ∀ {A s : List Int}, (∀ x, pev s x = lins x A * pev v x) →
    ((gh s w u ≠ 0 ↔ ∀ r, r ∈ A → u ≠ r * w) ∧ ((∀ r, r ∈ A → u ≠ r * w) → (gh s w u * gh s w (u + 1) ≤ 0 ↔ ∃ r, r ∈ A ∧ u + 1 = r * w)))
  | [], s, h => by
    have hw0 : (w : Int) ≠ 0 := by omega
    have hp : ∀ n : Nat, 0 < (w : Int) ^ n := fun n => Int.pow_pos (by omega)
    have e1 := gh_prod (A := [1]) (B := v) (C := s) (k := 1) (fun x => by rw [h]; simp [lins, pev]) hw0 u
    have e2 := gh_prod (A := [1]) (B := v) (C := s) (k := 1) (fun x => by rw [h]; simp [lins, pev]) hw0 (u + 1)
    have g1 : ∀ z, gh [1] w z = w := fun z => by simp [gh]; exact Int.pow_one _
    rw [g1, Int.one_mul] at e1 e2
    unfold tch at hv
    generalize gh v w u = V1 at *
    generalize gh v w (u + 1) = V2 at *
    generalize gh s w u = S1 at *
    generalize gh s w (u + 1) = S2 at *
    have x1 := hp ([1].length + v.length)
    have y1 := hp s.length
    generalize (w : Int) ^ ([1].length + v.length) = X at *
    generalize (w : Int) ^ s.length = Y at *
    have hw1 : 0 < (w : Int) := by omega
    generalize (w : Int) = w' at *
    have hpos : 0 < S1 * S2 := by
      have t1 : (X * X) * (S1 * S2) = (Y * Y) * ((w' * w') * (V1 * V2)) := by
        have : (X * S1) * (X * S2) = (Y * (w' * V1)) * (Y * (w' * V2)) := by rw [e1, e2]
        grind
      have t2 : 0 < (Y * Y) * ((w' * w') * (V1 * V2)) := Int.mul_pos (Int.mul_pos y1 y1) (Int.mul_pos (Int.mul_pos hw1 hw1) (by omega))
      refine Int.not_le.1 fun z => ?_
      have := Int.mul_nonpos_of_nonneg_of_nonpos (Int.le_of_lt (Int.mul_pos x1 x1)) z
      omega
    refine ⟨⟨fun _ r hr => by simp at hr, fun _ z => by rw [z] at hpos; simp at hpos⟩, fun _ => ⟨fun z => by omega, fun ⟨r, hr, _⟩ => by simp at hr⟩⟩
  | r :: A, s, h => by
    have hw0 : (w : Int) ≠ 0 := by omega
    have hp : ∀ n : Nat, 0 < (w : Int) ^ n := fun n => Int.pow_pos (by omega)
    obtain ⟨s', hs'⟩ : ∃ s', ∀ x, pev s' x = lins x A * pev v x := by
      have mk : ∀ B : List Int, ∃ s', ∀ x, pev s' x = lins x B * pev v x := fun B => by
        induction B with
        | nil => exact ⟨v, fun x => by simp [lins]⟩
        | cons b B ih =>
          obtain ⟨z, hz⟩ := ih
          exact ⟨pmul [-b, 1] z, fun x => by rw [ev_pmul, hz, lins]; simp [pev]; grind⟩
      exact mk A
    obtain ⟨i1, i2⟩ := lins_tch hw hv hs'
    have hprod : ∀ x, pev s x = 1 * (pev [-r, 1] x * pev s' x) := fun x => by rw [h, hs', lins]; simp [pev]; grind
    have e1 := gh_prod (A := [-r, 1]) (B := s') (C := s) (k := 1) hprod hw0 u
    have e2 := gh_prod (A := [-r, 1]) (B := s') (C := s) (k := 1) hprod hw0 (u + 1)
    rw [gh_line, Int.one_mul] at e1 e2
    generalize gh s' w u = V1 at *
    generalize gh s' w (u + 1) = V2 at *
    generalize gh s w u = S1 at *
    generalize gh s w (u + 1) = S2 at *
    have x1 := hp ([-r, 1].length + s'.length)
    have y1 := hp s.length
    generalize (w : Int) ^ ([-r, 1].length + s'.length) = X at *
    generalize (w : Int) ^ s.length = Y at *
    have hw1 : 0 < (w : Int) := by omega
    have hne : S1 ≠ 0 ↔ u ≠ r * w ∧ V1 ≠ 0 := by
      constructor
      · intro z
        constructor
        · intro z2
          rw [z2, Int.sub_self] at e1
          rw [Int.mul_zero, Int.zero_mul, Int.mul_zero] at e1
          exact (Int.mul_ne_zero (by omega) z) e1
        · intro z2
          rw [z2, Int.mul_zero, Int.mul_zero] at e1
          exact (Int.mul_ne_zero (by omega) z) e1
      · rintro ⟨z1, z2⟩ z3
        rw [z3, Int.mul_zero] at e1
        exact (Int.mul_ne_zero (by omega) (Int.mul_ne_zero (Int.mul_ne_zero hw0 (by omega)) z2)) e1.symm
    have hmul : (X * X) * (S1 * S2) = (Y * Y) * (((w : Int) * w) * (((u - r * w) * (u + 1 - r * w)) * (V1 * V2))) := by
      have : (X * S1) * (X * S2) = (Y * (w * (u - r * w) * V1)) * (Y * (w * (u + 1 - r * w) * V2)) := by rw [e1, e2]
      grind
    have hsg : S1 * S2 ≤ 0 ↔ ((u - r * w) * (u + 1 - r * w)) * (V1 * V2) ≤ 0 := by
      have p1 := Int.mul_pos x1 x1
      have p2 := Int.mul_pos y1 y1
      have p3 := Int.mul_pos hw1 hw1
      generalize ((u - r * w) * (u + 1 - r * w)) * (V1 * V2) = Z at *
      constructor
      · intro z
        refine Int.not_lt.1 fun z2 => ?_
        have := Int.mul_nonpos_of_nonneg_of_nonpos (Int.le_of_lt p1) z
        have := Int.mul_pos p2 (Int.mul_pos p3 z2)
        omega
      · intro z
        refine Int.not_lt.1 fun z2 => ?_
        have := Int.mul_pos p1 z2
        have := Int.mul_nonpos_of_nonneg_of_nonpos (Int.le_of_lt p2) (Int.mul_nonpos_of_nonneg_of_nonpos (Int.le_of_lt p3) z)
        omega
    refine ⟨?_, fun hall => ?_⟩
    · rw [hne, i1]
      exact ⟨fun ⟨z1, z2⟩ t ht => by
        rcases List.mem_cons.1 ht with rfl | ht
        · exact z1
        · exact z2 t ht, fun z => ⟨z r (List.mem_cons_self ..), fun t ht => z t (List.mem_cons_of_mem _ ht)⟩⟩
    · have hr := hall r (List.mem_cons_self ..)
      have i3 := i2 fun t ht => hall t (List.mem_cons_of_mem _ ht)
      rw [hsg]
      by_cases hc : u + 1 = r * w
      · rw [show u + 1 - r * w = 0 by omega]
        simp only [Int.mul_zero, Int.zero_mul]
        exact ⟨fun _ => ⟨r, List.mem_cons_self .., hc⟩, fun _ => Int.le_refl _⟩
      · have hpos : 0 < (u - r * w) * (u + 1 - r * w) := by
          rcases Int.lt_trichotomy (u - r * w) 0 with g | g | g
          · exact Int.mul_pos_of_neg_of_neg g (by omega)
          · omega
          · exact Int.mul_pos g (by omega)
        generalize (u - r * w) * (u + 1 - r * w) = T at *
        have : T * (V1 * V2) ≤ 0 ↔ V1 * V2 ≤ 0 := by
          constructor
          · intro z
            refine Int.not_lt.1 fun z2 => ?_
            have := Int.mul_pos hpos z2
            omega
          · exact fun z => Int.mul_nonpos_of_nonneg_of_nonpos (Int.le_of_lt hpos) z
        rw [this, i3]
        exact ⟨fun ⟨t, t1, t2⟩ => ⟨t, List.mem_cons_of_mem _ t1, t2⟩, fun ⟨t, t1, t2⟩ => by
          rcases List.mem_cons.1 t1 with rfl | t1
          · exact absurd t2 hc
          · exact ⟨t, t1, t2⟩⟩
def lmk : List Int → List Int
  | [] => [1]
  | r :: A => pmul [-r, 1] (lmk A)
theorem lmk_ev (x : Int) : ∀ A : List Int, pev (lmk A) x = lins x A
  | [] => by simp [lmk, lins, pev]
  | r :: A => by rw [lmk, ev_pmul, lmk_ev x A, lins]; simp [pev]; grind
theorem root_dv {s : List Int} {t : Int} (h : pev s t = 0) : Dv [-t, 1] s := ⟨syn t s, fun x => by rw [syn_ev t x s, h]; simp [pev]; grind⟩
theorem line_dg (t : Int) : dg [-t, 1] = 2 := by unfold dg; simp [nrm]
theorem sim_free {p s : List Int} (h : SimSpec p s) (hd : 0 < dg p) {t : Int} (h0 : pev s t = 0) : pev (pder s) t ≠ 0 := by
  intro h1
  obtain ⟨g, hg, hs⟩ := h.ok hd
  obtain ⟨d, hdg⟩ := gc_exists s (pder s)
  have h2 := simple_free (w := pprim p) (by rw [pprim_dg]; exact hd) (pprim_cont hd) hg hs hdg
  have h3 := (hdg.2.2.1 _ (root_dv h0) (root_dv h1)).deg (by omega)
  rw [line_dg] at h3
  omega
theorem made_sim {q p A B s : List Int} (h : Made q p A) (hq : ∀ x, pev q x ≠ 0) (hd : 0 < dg p) (hs : SimSpec p s) (hB : B.Nodup) (hm : ∀ x, x ∈ B ↔ x ∈ A) :
    ∃ v, Dv v q ∧ ∀ x, pev s x = lins x B * pev v x := by
  have hz := sim_zero hs hd
  obtain ⟨v, hv⟩ := split_off hB fun t ht => (hz t).2 ((h.root hq t).2 ((hm t).1 ht))
  obtain ⟨g, hg⟩ := sim_prod hs hd
  refine ⟨v, h.strip (fun t ht h0 => ?_) ⟨ptim (scont p) (pmul g (lmk B)), fun x => by rw [hg, hv, ev_ptim, ev_pmul, lmk_ev]; grind⟩, hv⟩
  have hB' := (hm t).2 ht
  have e1 : ∀ x, pev s x = pev (pmul (lmk B) v) x := fun x => by rw [ev_pmul, lmk_ev, hv]
  have e2 : pev s t = 0 := by rw [hv, h0, Int.mul_zero]
  refine sim_free hs hd e2 ?_
  rw [pder_ext e1, pder_pmul, h0, lmk_ev, lins_zero.2 hB']
  simp
theorem Made.pos {q p A : List Int} (h : Made q p A) (hq : 0 < dg q) : 0 < dg p := by
  induction h with
  | base e => rw [dg_ext e]; exact hq
  | more r _ e ih =>
    have := mul_dg (a := [-r, 1]) (fun x => by rw [e]; simp [pev]; grind) (by rw [line_dg]; omega) ih
    rw [line_dg] at this
    omega
theorem lmk_dg : ∀ A : List Int, dg (lmk A) = A.length + 1
  | [] => rfl
  | r :: A => by
    have := mul_dg (a := [-r, 1]) (b := lmk A) (c := lmk (r :: A)) (fun x => by rw [lmk, ev_pmul]) (by rw [line_dg]; omega) (by rw [lmk_dg A]; omega)
    rw [line_dg, lmk_dg A] at this
    rw [List.length_cons]; omega
theorem made_short {q p A B s : List Int} (h : Made q p A) (hq : ∀ x, pev q x ≠ 0) (hd : 0 < dg p) (hdq : 0 < dg q) (hs : SimSpec p s) (hB : B.Nodup) (hm : ∀ x, x ∈ B ↔ x ∈ A) : s.length + 1 ≤ B.length + 1 + dg q := by
  obtain ⟨v, hv, e⟩ := made_sim h hq hd hs hB hm
  have h1 := hv.deg hdq
  have := (mul_dg (a := lmk B) (b := v) (c := s) (fun x => by rw [lmk_ev, e]) (by rw [lmk_dg]; omega) h1.1).1
  rw [lmk_dg, dg_nm hs.sn] at this
  omega
theorem nc_none' {s : List Int} {w : Nat} {u : Int} : ∀ {e : Nat}, (∀ i : Nat, i < e → ¬ (gh s w (u + i) * gh s w (u + i + 1) ≤ 0 ∧ gh s w (u + i) ≠ 0)) → nc s w u e = 0
  | 0, _ => rfl
  | e + 1, h => by rw [nc, nc_none' fun i hi => h i (by omega), if_neg (h e (by omega))]
theorem known_unit {s v q B : List Int} {L : Nat → List Int} {r : Nat} (hc : Chain L r) (he : L 0 = s) (hv : Dv v q) (hs : ∀ x, pev s x = lins x B * pev v x)
    (hq : ∀ w : Nat, 1 ≤ w → ∀ u : Int, w ^ q.length ≤ (gh q w u).natAbs) (t : Int) : rc s t (t + 1) = if t + 1 ∈ B then 1 else 0 := by
  obtain ⟨y, hy⟩ := hv
  obtain ⟨W, _, hW⟩ := low_tch (C := q) (g := y) (s := v) (k := 1) (fun x => by rw [hy]; grind) (t.natAbs + 1)
  obtain ⟨W', hW'⟩ := rc_nc hc he t 1
  have e0 := hW' (max (max W W') 2) (by omega)
  rw [show ((1 : Nat) : Int) = 1 from rfl] at e0
  have hww : W ≤ max (max W W') 2 := by omega
  have hw2 : 2 ≤ max (max W W') 2 := by omega
  generalize max (max W W') 2 = w at *
  have key : ∀ i : Nat, i < w → ((gh s w ((w : Int) * t + i) * gh s w ((w : Int) * t + i + 1) ≤ 0 ∧ gh s w ((w : Int) * t + i) ≠ 0) ↔ i + 1 = w ∧ t + 1 ∈ B) := fun i hi => by
    have hu : ((w : Int) * t + i).natAbs ≤ (t.natAbs + 1) * w := by
      have g1 := Int.natAbs_add_le ((w : Int) * t) (i : Int)
      rw [Int.natAbs_mul, Int.natAbs_natCast, Int.natAbs_natCast] at g1
      have g2 : (t.natAbs + 1) * w = w * t.natAbs + w := by grind
      omega
    obtain ⟨k1, k2⟩ := lins_tch (by omega) (hW w hww _ hu (hq w (by omega) _)) hs
    have far : ∀ z : Int, z * w = i + 1 → z = 1 ∧ i + 1 = w := fun z hz => by
      have w2 : (2 : Int) ≤ w := by omega
      have hi' : (i : Int) + 1 ≤ w := by omega
      have hi0 : (0 : Int) < i + 1 := by omega
      rcases Int.lt_trichotomy z 1 with g | g | g
      · have : z * w ≤ 0 := Int.mul_nonpos_of_nonpos_of_nonneg (by omega) (by omega)
        omega
      · subst g; omega
      · have : 2 * (w : Int) ≤ z * w := Int.mul_le_mul_of_nonneg_right (by omega) (by omega)
        omega
    constructor
    · rintro ⟨h1, h2⟩
      have h3 := k1.1 h2
      obtain ⟨z, hz, e⟩ := (k2 h3).1 h1
      obtain ⟨f1, f2⟩ := far (z - t) (by have : (z - t) * (w : Int) = z * w - w * t := by grind
                                         omega)
      exact ⟨f2, by rw [show t + 1 = z by omega]; exact hz⟩
    · rintro ⟨h1, h2⟩
      have h3 : ∀ z, z ∈ B → (w : Int) * t + i ≠ z * w := fun z _ e => by
        have e2 : (t + 1 - z) * (w : Int) = 1 := by
          have : (t + 1 - z) * (w : Int) = w * t + w - z * w := by grind
          omega
        rcases Int.lt_trichotomy (t + 1 - z) 0 with g | g | g
        · have : (t + 1 - z) * (w : Int) ≤ 0 := Int.mul_nonpos_of_nonpos_of_nonneg (by omega) (by omega)
          omega
        · rw [g] at e2; simp at e2
        · have : 1 * (w : Int) ≤ (t + 1 - z) * w := Int.mul_le_mul_of_nonneg_right (by omega) (by omega)
          omega
      exact ⟨(k2 h3).2 ⟨t + 1, h2, by have : (t + 1) * (w : Int) = w * t + w := by grind
                                      omega⟩, k1.2 h3⟩
  rw [e0, Nat.mul_one]
  obtain ⟨m, rfl⟩ : ∃ m, w = m + 1 := ⟨w - 1, by omega⟩
  have z0 := nc_none' (s := s) (w := m + 1) (u := ((m + 1 : Nat) : Int) * t) (e := m) fun i hi h => by
    have := (key i (by omega)).1 h
    omega
  have z1 := key m (by omega)
  rw [nc, z0]
  by_cases hb : t + 1 ∈ B
  · rw [if_pos hb, if_pos (z1.2 ⟨rfl, hb⟩)]; rfl
  · rw [if_neg hb, if_neg fun h => hb (z1.1 h).2]; rfl
def cin (a b : Int) : List Int → Int
  | [] => 0
  | x :: A => cin a b A + if a < x ∧ x ≤ b then 1 else 0
theorem cin_self (a : Int) : ∀ A : List Int, cin a a A = 0
  | [] => rfl
  | x :: A => by rw [cin, cin_self a A, if_neg (by omega)]; omega
theorem cin_step {a b : Int} (h : a ≤ b) : ∀ {A : List Int}, A.Nodup → cin a (b + 1) A = cin a b A + if b + 1 ∈ A then 1 else 0
  | [], _ => by simp [cin]
  | x :: A, hn => by
    have hn' := List.nodup_cons.1 hn
    rw [cin, cin, cin_step h hn'.2]
    by_cases e : x = b + 1
    · subst e
      rw [if_neg hn'.1, if_pos (show a < b + 1 ∧ b + 1 ≤ b + 1 by omega), if_neg (show ¬ (a < b + 1 ∧ b + 1 ≤ b) by omega), if_pos (List.mem_cons_self ..)]
    · have : (b + 1 ∈ x :: A) ↔ b + 1 ∈ A := by
        rw [List.mem_cons]
        exact ⟨fun g => g.resolve_left fun g => e g.symm, .inr⟩
      simp only [this]
      by_cases g : a < x ∧ x ≤ b
      · rw [if_pos g, if_pos (show a < x ∧ x ≤ b + 1 by omega)]; omega
      · rw [if_neg g, if_neg (show ¬ (a < x ∧ x ≤ b + 1) by omega)]; omega
theorem rise_nodup : ∀ {A : List Int}, Rise A → A.Nodup
  | [], _ => List.nodup_nil
  | x :: A, h => List.nodup_cons.2 ⟨fun g => by have := h.1 x g; omega, rise_nodup h.2⟩
def ins (a b : Int) (A : List Int) : List Int := A.filter fun x => decide (a ≤ x ∧ x ≤ b)
theorem ins_mem {a b t : Int} {A : List Int} : t ∈ ins a b A ↔ t ∈ A ∧ a ≤ t ∧ t ≤ b := by unfold ins; rw [List.mem_filter, decide_eq_true_iff]
theorem ins_len {a b : Int} (h : a ≤ b) : ∀ {A : List Int}, A.Nodup → ((ins a b A).length : Int) = cin a b A + if a ∈ A then 1 else 0
  | [], _ => by simp [ins, cin]
  | x :: A, hn => by
    have hn' := List.nodup_cons.1 hn
    have ih := ins_len h hn'.2
    unfold ins at ih ⊢
    rw [List.filter_cons, cin]
    by_cases e : x = a
    · subst e
      rw [if_pos (decide_eq_true (by omega)), if_neg (by omega), if_pos (List.mem_cons_self ..), List.length_cons]
      rw [if_neg hn'.1] at ih
      omega
    · have : (a ∈ x :: A) ↔ a ∈ A := by
        rw [List.mem_cons]
        exact ⟨fun g => g.resolve_left fun g => e g.symm, .inr⟩
      simp only [this]
      by_cases g : a ≤ x ∧ x ≤ b
      · rw [if_pos (decide_eq_true g), if_pos (by omega), List.length_cons]; omega
      · rw [if_neg (by rw [decide_eq_false g]; decide), if_neg (by omega)]; omega
theorem known_rc {s v q B : List Int} {L : Nat → List Int} {r : Nat} (hc : Chain L r) (he : L 0 = s) (hv : Dv v q) (hs : ∀ x, pev s x = lins x B * pev v x)
    (hq : ∀ w : Nat, 1 ≤ w → ∀ u : Int, w ^ q.length ≤ (gh q w u).natAbs) (hB : B.Nodup) (a : Int) : ∀ d : Nat, rc s a (a + d) = cin a (a + d) B
  | 0 => by rw [show a + ((0 : Nat) : Int) = a by omega, rc_self hc he, cin_self]
  | d + 1 => by
    have e : a + ((d + 1 : Nat) : Int) = a + d + 1 := by omega
    rw [e, rc_add hc he (b := a + d) (by omega) (by omega), known_rc hc he hv hs hq hB a d, known_unit hc he hv hs hq, cin_step (by omega) hB]
theorem rise_head {a : Int} : ∀ {I : List Int}, Rise I → (∀ x, x ∈ I → a ≤ x) → (a ∈ I ↔ 0 < I.length ∧ I.getD 0 0 = a)
  | [], _, _ => by simp
  | x :: I, h, g => by
    have hx := g x (List.mem_cons_self ..)
    rw [List.mem_cons]
    simp only [List.length_cons, List.getD_cons_zero]
    constructor
    · rintro (e | e)
      · exact ⟨by omega, e.symm⟩
      · have := h.1 a e; omega
    · exact fun e => .inl e.2.symm
theorem known_law {q P A B : List Int} (hP : Made q P A) (hq0 : ∀ x, pev q x ≠ 0) (hq1 : ∀ w : Nat, 1 ≤ w → ∀ u : Int, w ^ q.length ≤ (gh q w u).natAbs) (hdq : 0 < dg q) (hB : Rise B) (hm : ∀ x, x ∈ B ↔ x ∈ A) :
    0 < dg P ∧ (∀ Z e, AlSpec P Z e → Z = B ∧ e = 0) ∧ ∀ a b : Int, a ≤ b → (∀ c e, CntSpec P a b c e → c = ((ins a b B).length : Int) - (if 0 < (ins a b B).length ∧ (ins a b B).getD 0 0 = a then 1 else 0) ∧ e = 0) ∧
      (∀ O e, FlSpec P a b O e → O = ins a b B ∧ inL P O = ins a b B ∧ e = 0) := by
  have hd := hP.pos hdq
  have hroot := fun x => hP.root hq0 x
  have hI : ∀ a b, Rise (ins a b B) := fun a b => hB.filter _
  refine ⟨hd, fun Z e hZ => ?_, fun a b hab => ⟨fun c e hc => ?_, fun O e hO => ?_⟩⟩
  · obtain ⟨O, hO, rfl⟩ := hZ.ok hd
    have hb := rbnd_two P
    obtain ⟨k1, k2, k3⟩ := in_all hO hd (by omega)
    refine ⟨k1.ext hB fun x => ?_, k3⟩
    rw [k2, hroot, hm]
    refine ⟨fun h => h.2.2, fun h => ⟨?_, ?_, h⟩⟩
    · refine Int.not_lt.1 fun g => far_ev hd (x := x) (by omega) ((hroot x).2 h)
    · refine Int.not_lt.1 fun g => far_ev hd (x := x) (by omega) ((hroot x).2 h)
  · obtain ⟨h1, s, h2, _, rfl, _, _, L, r, hch, he⟩ := hc.ok hd hab
    obtain ⟨v, hv, hsv⟩ := made_sim hP hq0 hd h2 (rise_nodup hB) hm
    obtain ⟨d, rfl⟩ : ∃ d : Nat, b = a + d := ⟨(b - a).toNat, by omega⟩
    refine ⟨?_, h1⟩
    have e1 := ins_len hab (rise_nodup hB)
    have e2 := rise_head (hI a (a + d)) fun x hx => (ins_mem.1 hx).2.1
    rw [known_rc hch he hv hsv hq1 (rise_nodup hB) a d]
    by_cases g : a ∈ B
    · rw [if_pos g] at e1
      rw [if_pos (e2.1 (ins_mem.2 ⟨g, by omega, hab⟩))]; omega
    · rw [if_neg g] at e1
      rw [if_neg fun g2 => g (ins_mem.1 (e2.2 g2)).1]; omega
  · obtain ⟨h1, s, ls, h2, h3, h4, _, h6⟩ := hO.ok hd hab
    obtain ⟨v, hv, hsv⟩ := made_sim hP hq0 hd h2 (rise_nodup hB) hm
    refine ⟨h6.up.ext (hI a b) fun x => ?_, ?_, h1⟩
    · rw [h6.mem, ins_mem, cnt_rc h3 (by omega), h4, known_unit h3.ch h4 hv hsv hq1]
      have z1 : ∀ x, (if pev s x = 0 then (1 : Int) else 0) = if x ∈ B then 1 else 0 := fun x => by
        have : pev s x = 0 ↔ x ∈ B := by rw [sim_zero h2 hd, hroot, hm]
        simp only [this]
      rw [z1, z1]
      by_cases g : x ∈ B
      · rw [if_pos g]; exact ⟨fun h => ⟨g, h.1, by omega⟩, fun h => ⟨h.2.1, by omega, by omega⟩⟩
      · rw [if_neg g]; exact ⟨fun h => by omega, fun h => absurd h.1 g⟩
    · obtain ⟨k1, k2, _⟩ := in_all hO hd hab
      refine k1.ext (hI a b) fun x => ?_
      rw [k2, ins_mem, hroot, hm]
      exact ⟨fun h => ⟨h.2.2, h.1, h.2.1⟩, fun h => ⟨h.2.1, h.2.2, h.1⟩⟩
theorem quad_ev {c : Int} (hc : 0 ≤ c) (x : Int) : pev [c + 1, 0, 1] x ≠ 0 := by
  have e : pev [c + 1, 0, 1] x = c + 1 + x * x := by simp [pev]
  have : 0 ≤ x * x := by
    rcases Int.le_total 0 x with h | h
    · exact Int.mul_nonneg h h
    · exact Int.mul_nonneg_of_nonpos_of_nonpos h h
  omega
theorem quad_low {c : Int} (hc : 0 ≤ c) (w : Nat) (_ : 1 ≤ w) (u : Int) : w ^ [c + 1, 0, 1].length ≤ (gh [c + 1, 0, 1] w u).natAbs := by
  have e : gh [c + 1, 0, 1] w u = (c + 1) * ((w ^ 3 : Nat) : Int) + u * u * w := by
    simp [gh]; grind
  have h1 : 0 ≤ u * u := by
    rcases Int.le_total 0 u with h | h
    · exact Int.mul_nonneg h h
    · exact Int.mul_nonneg_of_nonpos_of_nonpos h h
  have h2 : 0 ≤ u * u * (w : Int) := Int.mul_nonneg h1 (Int.natCast_nonneg _)
  have h3 : 0 ≤ c * ((w ^ 3 : Nat) : Int) := Int.mul_nonneg hc (Int.natCast_nonneg _)
  have h4 : (c + 1) * ((w ^ 3 : Nat) : Int) = c * ((w ^ 3 : Nat) : Int) + ((w ^ 3 : Nat) : Int) := by grind
  rw [e, h4]
  show w ^ 3 ≤ _
  omega
theorem quad_dg (c : Int) : dg [c + 1, 0, 1] = 3 := by unfold dg; simp [nrm]
open Go.RowKit
structure Lk (A : Row) (l : List Int) (k n : Nat) : Prop where
  val : vv A = l
  fit : Fit k A
  len : A.length ≤ n
theorem Lk.told {l : List Int} {k n : Nat} (h : szR k l) (hn : l.length ≤ n) : Lk (l.map cn) l k n := ⟨vv_cn l, h.fit, by rw [List.length_map]; exact hn⟩
theorem Lk.sz {A : Row} {l : List Int} {k n : Nat} (h : Lk A l k n) : szR k l := by rw [← h.val]; exact h.fit.szR
theorem Lk.ll {A : Row} {l : List Int} {k n : Nat} (h : Lk A l k n) : l.length ≤ n := by rw [← h.val, vv_len]; exact h.len
theorem Lk.mono {A : Row} {l : List Int} {k n k' n' : Nat} (h : Lk A l k n) (hk : k ≤ k') (hn : n ≤ n') : Lk A l k' n' := ⟨h.val, h.fit.mono hk, Nat.le_trans h.len hn⟩
theorem pmul_len (l m : List Int) : (pmul l m).length ≤ l.length + m.length := by
  by_cases h1 : 0 < dg l
  · by_cases h2 : 0 < dg m
    · have := (pmul_dg h1 h2).1
      rw [dg_nm (pmul_nm l m)] at this
      have a1 := dg_le_len l
      have a2 := dg_le_len m
      omega
    · have : pmul l m = [] := (pmul_nm l m).ext Nm.nil fun x => by rw [ev_pmul, dg_zero.1 (show dg m = 0 by omega)]; simp [pev]
      rw [this]; exact Nat.zero_le _
  · have : pmul l m = [] := (pmul_nm l m).ext Nm.nil fun x => by rw [ev_pmul, dg_zero.1 (show dg l = 0 by omega)]; simp [pev]
    rw [this]; exact Nat.zero_le _
theorem szR.pmul {k j : Nat} {l m : List Int} (h : szR k l) (h' : szR j m) (hl : l.length < 18446744073709551616) : szR (k + j + 1) (pmul l m) := by
  have hn : (Go.Proofs.Ytgpcepcbdpigfaa.nrm l).length ≤ l.length := nrm_length_le l
  unfold Go.Proofs.Ytgpcepcbdpigfaa.pmul
  simp only
  split
  · exact fun x hx => by simp at hx
  · exact szR.nrm (szR.lst fun i _ => conv_sz h.nrm h'.nrm (by omega) i)
section
variable {A B : Row} {l m : List Int} {k j n n' : Nat}
theorem Lk.nrm (h : Lk A l k n) : Lk ((nrm l).map cn) (Go.Proofs.Ytgpcepcbdpigfaa.nrm l) k n := Lk.told h.sz.nrm (Nat.le_trans (nrm_length_le _) h.ll)
theorem Lk.add (h : Lk A l k n) (h' : Lk B m k n) : Lk ((padd l m).map cn) (padd l m) (k + 1) n := Lk.told (h.sz.padd h'.sz) (Nat.le_trans (padd_len _ _) (Nat.max_le.2 ⟨h.ll, h'.ll⟩))
theorem Lk.sub (h : Lk A l k n) (h' : Lk B m k n) : Lk ((psub l m).map cn) (psub l m) (k + 1) n := Lk.told (h.sz.psub h'.sz) (Nat.le_trans (psub_len _ _) (Nat.max_le.2 ⟨h.ll, h'.ll⟩))
theorem Lk.mul (h : Lk A l k n) (h' : Lk B m j n') (hn : n < 1073741824) : Lk ((pmul l m).map cn) (pmul l m) (k + j + 1) (n + n') := Lk.told (h.sz.pmul h'.sz (by have := h.ll; omega)) (by have := pmul_len l m; have := h.ll; have := h'.ll; omega)
end
open Go.RowKit
instance (l : List Int) : Decidable (Nm l) := inferInstanceAs (Decidable (_ = _))
open Go.RowKit
open Go.RowKit
theorem rNegJ (v : Value) (x : Bool × List Nat) (hx : Lim x.2) (lx : x.2.length ≤ 1099511627776) :
    Meets Try.prog 23 [v] [(v, J x)] (fun r os fs => os = [] ∧ fs = [(r, zd (- jv x))]) := rNeg_meets v x.1 x.2 hx lx
open Go.RowKit
open Go.RowKit
theorem rCmpJ5 (v w : Value) (x y : Bool × List Nat) (a : Nat) (hx : Lim x.2) (lx : x.2.length ≤ a) (hy : Lim y.2) (ly : y.2.length ≤ a) (ha : a ≤ 137438953471) :
    Meets Try.prog 16 [v, w] [(v, J x), (w, J y)] (fun r os fs => os = [] ∧ fs = [] ∧ r = .int .i64 (jv x - jv y).sign) := by
  have h : ∀ y1 y2, Meets Try.prog 38 [y1, y2] [(y1, J x), (y2, J y)] (fun r os fs => os = [] ∧ fs = [(r, zd (jv x - jv y))]) := fun y1 y2 => rZSub_meets y1 y2 x.1 y.1 x.2 y.2 hx hy (by omega) (by omega)
  have hd : sz (jv x - jv y) (a + 1) := sz_sub (sz_jv hx lx) (sz_jv hy ly)
  have hs := fun z => rSign_meets z (decide (jv x - jv y < 0)) (lims (jv x - jv y).natAbs) (Lim_lims _) (Nat.le_trans hd.len (by omega))
  simp only [iv_zd] at hs
  refine meets_of_vc Try.func16 (by kernel_rfl) rfl (by kernel_rfl) (Nat.le_of_ble_eq_true rfl) ?_
  refine box_rule (Reads.fact (d := J x) qM) fun p hp => ?_
  refine box_rule (Reads.fact (d := J y) qM) fun q hq => ?_
  refine load_box (d := J x) 1 rfl hp rfl (load_J _) fun y1 => ?_
  refine load_box (d := J y) 0 rfl hq rfl (load_J _) fun y2 => ?_
  refine call_fn (h y1 y2) (Seals.refl _ _) qS ?_
  rintro z _ _ ⟨rfl, rfl⟩
  refine call_fn (hs z) (Seals.refl _ _) qS ?_
  rintro _ _ _ ⟨rfl, rfl, rfl⟩
  exact fin ⟨rfl, rfl, rfl⟩ (Seals.trans (Seals.drop 0 _ _) (Seals.trans (Seals.drop 0 _ _) (Seals.nil _ _)))
open Go.RowKit
theorem lit3K {α : Type} {P : Program} {t e : TypeId} {size bytes : Nat} {os : List Own} {fs : List Fact} {K : Cont} [ht : TSl P t e size] [he : TEl P e size bytes] {x y z' : Value} (f : α → Dat) (z : α) (a b c : α) (hsz : size ≤ 16) (hx : Reads os fs x (f a)) (hy : Reads os fs y (f b)) (hz : Reads os fs z' (f c)) (hc : (f a).cells = size) (hc' : (f b).cells = size) (hc'' : (f c).cells = size)
    (k : ∀ v, K v os ((v, LD size f z [a, b, c]) :: fs)) : BuildSliceK P t 3 [(0, x), (1, y), (2, z')] os fs K := by
  have h1 := buildSlice_fact (P := P) (t := t) (os := os) (fs := fs) (K := fun u os' fs' => ∃ os'' fs'', Seals os' fs' os'' fs'' ∧ K u os'' fs'') (n := 3) [x, y, z'] [f a, f b, f c] rfl rfl (by decide) hsz ⟨hx, hc, hy, hc', hz, hc'', trivial⟩
  refine ⟨Grw.sealed (h1 fun v => ⟨_, _, ?_, k v⟩).out⟩
  exact Seals.knw_cong rfl fun i hi => by
    have : i = 0 ∨ i = 1 ∨ i = 2 := by omega
    rcases this with rfl | rfl | rfl <;> rfl
theorem empty5K {α : Type} {P : Program} {t e : TypeId} {size bytes : Nat} {os : List Own} {fs : List Fact} {K : Cont} [ht : TSl P t e size] [he : TEl P e size bytes] (f : α → Dat) (z : α) (hsz : size ≤ 16)
    (k : ∀ v, K v os ((v, LD size f z []) :: fs)) : BuildSliceK P t 0 [] os fs K := by
  have h1 := buildSlice_fact (P := P) (t := t) (os := os) (fs := fs) (K := fun u os' fs' => ∃ os'' fs'', Seals os' fs' os'' fs'' ∧ K u os'' fs'') (n := 0) [] [] rfl rfl (by decide) hsz trivial
  refine ⟨Grw.sealed (h1 fun v => ⟨_, _, ?_, k v⟩).out⟩
  exact Seals.knw_cong rfl fun i hi => by omega
theorem and1_u8 {P : Program} {t : TypeId} {x y : Operand} {os : List Own} {fs : List Fact} {K : Cont} (a : Nat) (ha : a < 256)
    (h1 : K (.int .u8 ((a % 2 : Nat) : Int)) os fs) : BinK P .and t x y (.int .u8 (a : Int)) (.int .u8 1) os fs K := by
  refine ⟨det_pure _ (fun w => ?_) h1⟩
  have hb : (BitVec.ofInt 8 (a : Int) &&& BitVec.ofInt 8 1).toNat = a % 2 := by
    rw [BitVec.toNat_and]
    have e1 : (BitVec.ofInt 8 (a : Int)).toNat = a := by rw [BitVec.toNat_ofInt]; omega
    have e2 : (BitVec.ofInt 8 1).toNat = 1 := by decide
    rw [e1, e2, Nat.and_one_is_mod]
  have hw : IntKind.u8.wrap ((a % 2 : Nat) : Int) = ((a % 2 : Nat) : Int) := wrap_in ⟨Int.natCast_nonneg _, by omega⟩
  have hd : ∀ X Y : BitVec 8, (X &&& Y).toNat = a % 2 → IntKind.u8.wrap ((X &&& Y).toNat : Int) = ((a % 2 : Nat) : Int) := fun X Y h => by rw [h, hw]
  simp only [eqGuard, binOp, Op.intBits, Sem.run_bind, Sem.run_pure, IntKind.bits, ne_eq, not_true, if_false]
  exact congrArg (fun n => Result.ok (Value.int .u8 n) w) (hd _ _ hb)
theorem put_rise : ∀ {L : List Int} {i : Nat} {x : Int}, Rise L → i ≤ L.length → (∀ j, j < i → L.getD j 0 < x) → (i = L.length ∨ x < L.getD i 0) → Rise (L.take i ++ x :: L.drop i)
  | L, 0, x, h, _, _, h2 => by
    rw [List.take_zero, List.nil_append, List.drop_zero]
    refine ⟨fun y hy => ?_, h⟩
    cases L with
    | nil => simp at hy
    | cons b L =>
      have hb : x < b := by
        rcases h2 with h2 | h2
        · simp at h2
        · exact h2
      rcases List.mem_cons.1 hy with rfl | hy
      · exact hb
      · have := h.1 y hy; omega
  | [], i + 1, x, _, h, _, _ => by simp at h
  | a :: L, i + 1, x, h, hi, h1, h2 => by
    rw [List.take_succ_cons, List.drop_succ_cons, List.cons_append]
    refine ⟨fun y hy => ?_, put_rise h.2 (by simp only [List.length_cons] at hi; omega) (fun j hj => h1 (j + 1) (by omega)) ?_⟩
    · rcases List.mem_append.1 hy with hy | hy
      · exact h.1 y (List.mem_of_mem_take hy)
      · rcases List.mem_cons.1 hy with rfl | hy
        · exact h1 0 (by omega)
        · exact h.1 y (List.mem_of_mem_drop hy)
    · rcases h2 with h2 | h2
      · left; simp only [List.length_cons] at h2; omega
      · right; exact h2
theorem put_mem {L : List Int} {i : Nat} {x t : Int} : t ∈ L.take i ++ x :: L.drop i ↔ t ∈ L ∨ t = x := by
  rw [List.mem_append, List.mem_cons]
  have h : t ∈ L ↔ t ∈ L.take i ∨ t ∈ L.drop i := by rw [← List.mem_append, List.take_append_drop]
  rw [h]
  constructor
  · rintro (h | h | h)
    · exact .inl (.inl h)
    · exact .inr h
    · exact .inl (.inr h)
  · rintro ((h | h) | h)
    · exact .inl h
    · exact .inr (.inr h)
    · exact .inr (.inl h)
theorem put5_meets (v w : Value) (L : List Int) (x : Bool × List Nat) (hL : ∀ t, t ∈ L → sz t 1) (hx : Lim x.2) (hx1 : x.2.length ≤ 1) (ll : L.length ≤ 1000) :
    Meets Try.prog 28 [v, w] [(v, vd L), (w, J x)] (fun r os fs => os = [] ∧ ∃ R, (Rise L → Rise R) ∧ (∀ t, t ∈ R ↔ t ∈ L ∨ t = jv x) ∧ R.length ≤ L.length + 1 ∧ fs = [(r, vd R)]) := by
  have hml : (L.map cn).length = L.length := List.length_map _
  have hcmp : ∀ i, i < L.length → ∀ a b, Meets Try.prog 16 [a, b] [(a, J ((L.map cn).getD i z0)), (b, J x)] (fun r os fs => os = [] ∧ fs = [] ∧ r = .int .i64 (L.getD i 0 - jv x).sign) := fun i hi a b => by
    rw [map_cn_get hi]
    have hz : sz (L.getD i 0) 1 := hL _ (by rw [List.getD_eq_getElem?_getD, List.getElem?_eq_getElem hi]; exact List.getElem_mem _)
    have := rCmpJ5 a b (cn (L.getD i 0)) x 1 (Lim_lims _) hz.len hx hx1 (by decide)
    rw [jv_cn] at this
    exact this
  refine meets_of_vc Try.func28 (by kernel_rfl) rfl (by kernel_rfl) (Nat.le_of_ble_eq_true rfl) ?_
  refine box_rule (Reads.fact (d := J x) qM) fun lb hlb => ?_
  refine loop_rule (X := Nat) (fun i => ([(0, v), (3, lb), (5, .int .i64 (i : Nat))], [own1 lb 2 1 (fun _ => J x)], [(v, vd L)]))
    (fun i => i ≤ L.length ∧ ∀ j, j < i → L.getD j 0 < jv x) (fun i => L.length - i) rfl ?_ ?_
  · exact again 0 ⟨Nat.zero_le _, fun j hj => by omega⟩ trivial qF (Seals.sub qS)
  rintro i ⟨hi, hlo⟩
  refine draw_rule [0, 1, 2, 3, 4, 5, 6, 7, 8, 9, 10, 11, 12] [0, 1, 2, 3, 4, 5, 6, 7, 8, 9, 10, 11, 12] (by kernel_rfl) (by kernel_rfl) ?_
  refine len_vd qM ?_
  refine cmp_split _ rfl (fun hlt => ?_) (fun hlt => ?_)
  · have hiL : i < L.length := by omega
    refine index_fact (v := v) qM i (by omega) (by rw [hml]; omega) fun a1 => ?_
    refine load_fact (d := J ((L.map cn).getD i z0)) qM (load_J _) fun a2 => ?_
    refine load_box (d := J x) 0 rfl hlb rfl (load_J _) fun a3 => ?_
    refine call_fn (hcmp i hiL a2 a3) (Seals.refl _ _) qS ?_
    rintro _ _ _ ⟨rfl, rfl, rfl⟩
    refine cmp_split _ rfl (fun hc => ?_) (fun hc => ?_)
    · have hlt2 := sgn_lt.1 hc
      refine ar rfl qI ?_
      refine again (i + 1) ⟨by omega, fun j hj => ?_⟩ (by simp only; omega) qF (Seals.sub qS)
      by_cases e : j = i
      · subst e; omega
      · exact hlo j (by omega)
    · have hge : jv x ≤ L.getD i 0 := Int.not_lt.1 fun h => hc (sgn_lt.2 (by omega))
      refine draw_rule [0, 1, 2, 3, 4, 5, 6, 7, 8, 9, 10, 11, 12] [0, 1, 2, 3, 4, 5, 6, 7, 8, 9, 10, 11, 12] (by kernel_rfl) (by kernel_rfl) ?_
      refine len_vd qM ?_
      refine cmp_true rfl (by omega) ?_
      refine index_fact (v := v) qM i (by omega) (by rw [hml]; omega) fun b1 => ?_
      refine load_fact (d := J ((L.map cn).getD i z0)) qM (load_J _) fun b2 => ?_
      refine load_box (d := J x) 0 rfl hlb rfl (load_J _) fun b3 => ?_
      refine call_fn (hcmp i hiL b2 b3) (Seals.refl _ _) qS ?_
      rintro _ _ _ ⟨rfl, rfl, rfl⟩
      refine cmp_split _ rfl (fun he => ?_) (fun he => ?_)
      · have he2 : L.getD i 0 = jv x := by have := sgn0.1 he; omega
        refine fin ⟨rfl, L, fun h => h, fun t => ⟨.inl, fun h => h.elim id fun h => ?_⟩, by omega, rfl⟩ (Seals.trans (Seals.drop 0 _ _) (Seals.sub qS))
        rw [h, ← he2, List.getD_eq_getElem?_getD, List.getElem?_eq_getElem hiL]; exact List.getElem_mem _
      · have he2 : jv x < L.getD i 0 := by
          rcases Int.lt_or_eq_of_le hge with h | h
          · exact h
          · exact absurd (sgn0.2 (show L.getD i 0 - jv x = 0 by omega)) he
        refine empty_L J z0 (by decide) fun w0 hw0 => ?_
        refine slice_L (size := 2) (f := J) (z := z0) (l := L.map cn) (kl := .i64) (kh := .i64) qM 0 i _ _ (.inl ⟨rfl, rfl⟩) (.inr rfl) (Nat.zero_le _) (by omega) fun u1 => ?_
        refine append_L 0 rfl hw0 (Knw.fact (v := u1) qM) (by simp; omega) (by simp; omega) fun w1 hw1 => ?_
        refine load_box (d := J x) 1 rfl hlb rfl (load_J _) fun c1 => ?_
        refine call_fn (show Meets Try.prog 15 [c1] [(c1, J x)] (fun r os fs => os = [] ∧ fs = [(r, zd (jv x))]) from rZNorm_meets c1 x.1 x.2 hx (by omega)) (Seals.refl _ _) qS ?_
        rintro c2 _ _ ⟨rfl, rfl⟩
        refine lit_L (size := 2) J z0 (cn (jv x)) (by decide) (Reads.fact (v := c2) (d := zd (jv x)) qM) rfl fun u2 => ?_
        refine append_L 0 rfl hw1 (Knw.fact (v := u2) qM) (by simp; omega) (by simp; omega) fun w2 hw2 => ?_
        refine slice_L (size := 2) (f := J) (z := z0) (l := L.map cn) (kl := .i64) (kh := .i64) qM i (L.map cn).length _ _ (.inr rfl) (.inl ⟨rfl, rfl⟩) (by omega) (Nat.le_refl _) fun u3 => ?_
        refine append_L 0 rfl hw2 (Knw.fact (v := u3) qM) (by simp; omega) (by simp; omega) fun w3 hw3 => ?_
        refine fin ⟨rfl, L.take i ++ jv x :: L.drop i, fun h => put_rise h (by omega) hlo (.inr he2), fun t => put_mem, by simp; omega, rfl⟩ (Seals.trans (Seals.L 0 rfl hw3) (Seals.trans (Seals.drop 0 _ _) (Seals.trans (Seals.cons ?_ (Seals.refl _ _)) (Seals.sub (fs' := [(w3, vd (L.take i ++ jv x :: L.drop i))]) qS))))
        refine (Knw.fact (List.Mem.head _)).cast ?_
        show LD 2 J z0 _ = LD 2 J z0 _
        congr 1
        rw [List.take_length]
        simp
  · have hiL : i = L.length := by omega
    refine draw_rule [0, 1, 2, 3, 4, 5, 6, 7, 8, 9, 10, 11, 12] [0, 1, 2, 3, 4, 5, 6, 7, 8, 9, 10, 11, 12] (by kernel_rfl) (by kernel_rfl) ?_
    refine len_vd qM ?_
    refine cmp_false rfl (by omega) ?_
    refine empty_L J z0 (by decide) fun w0 hw0 => ?_
    refine slice_L (size := 2) (f := J) (z := z0) (l := L.map cn) (kl := .i64) (kh := .i64) qM 0 i _ _ (.inl ⟨rfl, rfl⟩) (.inr rfl) (Nat.zero_le _) (by omega) fun u1 => ?_
    refine append_L 0 rfl hw0 (Knw.fact (v := u1) qM) (by simp; omega) (by simp; omega) fun w1 hw1 => ?_
    refine load_box (d := J x) 1 rfl hlb rfl (load_J _) fun c1 => ?_
    refine call_fn (show Meets Try.prog 15 [c1] [(c1, J x)] (fun r os fs => os = [] ∧ fs = [(r, zd (jv x))]) from rZNorm_meets c1 x.1 x.2 hx (by omega)) (Seals.refl _ _) qS ?_
    rintro c2 _ _ ⟨rfl, rfl⟩
    refine lit_L (size := 2) J z0 (cn (jv x)) (by decide) (Reads.fact (v := c2) (d := zd (jv x)) qM) rfl fun u2 => ?_
    refine append_L 0 rfl hw1 (Knw.fact (v := u2) qM) (by simp; omega) (by simp; omega) fun w2 hw2 => ?_
    refine slice_L (size := 2) (f := J) (z := z0) (l := L.map cn) (kl := .i64) (kh := .i64) qM i (L.map cn).length _ _ (.inr rfl) (.inl ⟨rfl, rfl⟩) (by omega) (Nat.le_refl _) fun u3 => ?_
    refine append_L 0 rfl hw2 (Knw.fact (v := u3) qM) (by simp; omega) (by simp; omega) fun w3 hw3 => ?_
    refine fin ⟨rfl, L.take i ++ jv x :: L.drop i, fun h => put_rise h (by omega) hlo (.inl hiL), fun t => put_mem, by simp; omega, rfl⟩ (Seals.trans (Seals.L 0 rfl hw3) (Seals.trans (Seals.drop 0 _ _) (Seals.trans (Seals.cons ?_ (Seals.refl _ _)) (Seals.sub (fs' := [(w3, vd (L.take i ++ jv x :: L.drop i))]) qS))))
    refine (Knw.fact (List.Mem.head _)).cast ?_
    show LD 2 J z0 _ = LD 2 J z0 _
    congr 1
    rw [List.take_length]
    simp
def cbd (M : Nat) (l : List Int) : Prop := ∀ i, (l.getD i 0).natAbs ≤ M
theorem cbd.line {M R : Nat} {l : List Int} {r : Int} (h : cbd M l) (hr : r.natAbs ≤ R) : cbd (M * (R + 1)) (pmul l [-r, 1]) := fun i => by
  have e := co_ext (l := pmul l [-r, 1]) (m := padd (l.map fun y => -r * y) (0 :: l)) (fun x => by
    have e2 : pev (l.map fun y => -r * y) x = -r * pev l x := by rw [← ev_ptim]; exact (ev_nrm _ x).symm
    rw [ev_pmul, ev_padd, e2]; simp [pev]; grind) i
  rw [e, co_padd, co_map]
  have h1 := h i
  have h2 : ((0 :: l).getD i 0).natAbs ≤ M := by
    cases i with
    | zero => simp
    | succ i => exact h i
  have h3 := Int.natAbs_add_le (-r * l.getD i 0) ((0 :: l).getD i 0)
  rw [Int.natAbs_mul, Int.natAbs_neg] at h3
  have h4 : r.natAbs * (l.getD i 0).natAbs ≤ R * M := Nat.mul_le_mul hr h1
  have h5 : M * (R + 1) = R * M + M := by grind
  omega
theorem cbd.mono {M M' : Nat} {l : List Int} (h : cbd M l) (hm : M ≤ M') : cbd M' l := fun i => Nat.le_trans (h i) hm
theorem cbd.szR {M k : Nat} {l : List Int} (h : cbd M l) (hm : M < 18446744073709551616 ^ k) : szR k l := fun x hx => by
  obtain ⟨i, hi, rfl⟩ := List.mem_iff_getElem.1 hx
  have := h i
  rw [List.getD_eq_getElem?_getD, List.getElem?_eq_getElem hi] at this
  exact Nat.lt_of_le_of_lt this hm
open Go.RowKit
structure KnS where
  i : Nat
  pv : Value
  P : List Int
  A : List Int
  bv : Value
  B : List Int
  iv : Value
  I : List Int
structure KnI (c a b : Int) (n : Nat) (z : KnS) : Prop where
  le : z.i ≤ n
  made : Made [c + 1, 0, 1] z.P z.A
  bd : cbd (256 * 18446744073709551616 ^ (2 * z.i)) z.P
  len : z.P.length ≤ 3 + 2 * z.i
  rB : Rise z.B
  mB : ∀ x, x ∈ z.B ↔ x ∈ z.A
  lB : z.B.length ≤ z.i
  zA : ∀ x, x ∈ z.A → sz x 1
  rI : Rise z.I
  mI : ∀ x, x ∈ z.I ↔ x ∈ z.A ∧ a ≤ x ∧ x ≤ b
  lI : z.I.length ≤ z.i
theorem kn_line {M : Nat} {l : List Int} {r : Int} (h : cbd M l) (hr : sz r 1) : cbd (M * 18446744073709551616) (pmul l [-r, 1]) := by
  have h1 : r.natAbs ≤ 18446744073709551615 := by unfold sz at hr; omega
  exact h.line h1
theorem kn_len {l : List Int} (r : Int) : (pmul l [-r, 1]).length ≤ l.length + 1 := pmul_len2 l _ (by simp)
theorem kn_pow (i : Nat) : 256 * 18446744073709551616 ^ (2 * (i + 1)) = 256 * 18446744073709551616 ^ (2 * i) * 18446744073709551616 * 18446744073709551616 := by
  rw [show 2 * (i + 1) = 2 * i + 1 + 1 by omega, Nat.pow_succ, Nat.pow_succ]; grind
theorem kn_sz {i : Nat} {l : List Int} (h : cbd (256 * 18446744073709551616 ^ (2 * i)) l) (hi : i ≤ 5) : szR 11 l := by
  refine h.szR (Nat.lt_of_le_of_lt (Nat.mul_le_mul_left _ (Nat.pow_le_pow_right (by decide) (show 2 * i ≤ 10 by omega))) (by decide))
theorem KnI.next {c a b : Int} {n : Nat} {z : KnS} {r : Int} {P' R I' : List Int} {A' : List Int} {p' b' i' : Value} (h : KnI c a b n z) (hn : z.i < n) (hr : sz r 1)
    (hP : (P' = pmul z.P [-r, 1] ∧ A' = r :: z.A) ∨ (P' = pmul (pmul z.P [-r, 1]) [-r, 1] ∧ A' = r :: r :: z.A))
    (hR : (Rise z.B → Rise R) ∧ (∀ t, t ∈ R ↔ t ∈ z.B ∨ t = r) ∧ R.length ≤ z.B.length + 1)
    (hI : ((Rise z.I → Rise I') ∧ (∀ t, t ∈ I' ↔ t ∈ z.I ∨ t = r) ∧ I'.length ≤ z.I.length + 1 ∧ a ≤ r ∧ r ≤ b) ∨ (I' = z.I ∧ ¬ (a ≤ r ∧ r ≤ b))) :
    KnI c a b n ⟨z.i + 1, p', P', A', b', R, i', I'⟩ := by
  have hA : ∀ x, x ∈ A' ↔ x ∈ z.A ∨ x = r := fun x => by
    rcases hP with ⟨_, rfl⟩ | ⟨_, rfl⟩
    · rw [List.mem_cons]; exact Or.comm
    · rw [List.mem_cons, List.mem_cons]
      constructor
      · rintro (h | h | h)
        · exact .inr h
        · exact .inr h
        · exact .inl h
      · rintro (h | h)
        · exact .inr (.inr h)
        · exact .inl h
  have hb1 := kn_line h.bd hr
  have hl1 := kn_len (l := z.P) r
  have hev : ∀ (l : List Int) (x : Int), pev (pmul l [-r, 1]) x = (x - r) * pev l x := fun l x => by rw [ev_pmul]; simp [pev]; grind
  refine ⟨hn, ?_, ?_, ?_, hR.1 h.rB, fun x => by rw [hR.2.1, h.mB, hA], ?_, fun x hx => ?_, ?_, fun x => ?_, ?_⟩
  · rcases hP with ⟨rfl, rfl⟩ | ⟨rfl, rfl⟩
    · exact .more r h.made (hev _)
    · exact .more r (.more r h.made (hev _)) (hev _)
  · show cbd (256 * 18446744073709551616 ^ (2 * (z.i + 1))) P'
    rw [kn_pow]
    rcases hP with ⟨rfl, _⟩ | ⟨rfl, _⟩
    · exact hb1.mono (Nat.le_mul_of_pos_right _ (by decide))
    · exact kn_line hb1 hr
  · have := h.len
    show P'.length ≤ 3 + 2 * (z.i + 1)
    rcases hP with ⟨rfl, _⟩ | ⟨rfl, _⟩
    · omega
    · have := kn_len (l := pmul z.P [-r, 1]) r
      omega
  · have := h.lB; have := hR.2.2; show R.length ≤ z.i + 1; omega
  · rcases (hA x).1 hx with g | rfl
    · exact h.zA x g
    · exact hr
  · rcases hI with ⟨g, _⟩ | ⟨rfl, _⟩
    · exact g h.rI
    · exact h.rI
  · show x ∈ I' ↔ x ∈ A' ∧ a ≤ x ∧ x ≤ b
    rw [hA]
    rcases hI with ⟨_, g, _, g3, g4⟩ | ⟨rfl, g⟩
    · rw [g, h.mI]
      constructor
      · rintro (⟨k1, k2⟩ | rfl)
        · exact ⟨.inl k1, k2⟩
        · exact ⟨.inr rfl, g3, g4⟩
      · rintro ⟨k1 | rfl, k2⟩
        · exact .inl ⟨k1, k2⟩
        · exact .inr rfl
    · rw [h.mI]
      constructor
      · rintro ⟨k1, k2⟩; exact ⟨.inl k1, k2⟩
      · rintro ⟨k1 | rfl, k2⟩
        · exact ⟨k1, k2⟩
        · exact absurd k2 g
  · have := h.lI
    show I'.length ≤ z.i + 1
    rcases hI with ⟨_, _, g, _⟩ | ⟨rfl, _⟩
    · omega
    · omega
theorem KnI.done {c a b : Int} {n : Nat} {z : KnS} (h : KnI c a b n z) (hc : 0 ≤ c) (h5 : z.i ≤ 5) : (∀ aa, aa ≤ 1000 → ChOk z.P 11 13 aa) ∧ szR 11 z.P ∧ z.P.length ≤ 13 ∧ 0 < dg z.P ∧ (∀ Z e, AlSpec z.P Z e → Z = z.B ∧ e = 0) ∧
    (a ≤ b → (∀ c e, CntSpec z.P a b c e → c = (z.I.length : Int) - (if 0 < z.I.length ∧ z.I.getD 0 0 = a then 1 else 0) ∧ e = 0) ∧
      (∀ O e, FlSpec z.P a b O e → O = z.I ∧ inL z.P O = z.I ∧ e = 0)) := by
  obtain ⟨k1, k2, k3⟩ := known_law h.made (quad_ev hc) (quad_low hc) (by rw [quad_dg]; omega) h.rB h.mB
  have hsz := kn_sz h.bd h5
  have hl : z.P.length ≤ 13 := by have := h.len; omega
  have hI : ins a b z.B = z.I := Rise.ext (show Rise (ins a b z.B) from h.rB.filter _) h.rI fun x => by rw [ins_mem, h.mI, h.mB]
  refine ⟨fun aa ha => ⟨by decide, by decide, by decide, ⟨ge (dvk 11 13 + 1) 8 8, 8, fun s hs => ?_, by decide, by decide, ?_⟩, by omega⟩, hsz, hl, k1, k2, fun hab => ?_⟩
  · have h1 := sim_sz hsz hl (by decide) hs
    have h2 := made_short h.made (quad_ev hc) k1 (by rw [quad_dg]; omega) hs (rise_nodup h.rB) h.mB
    rw [quad_dg] at h2
    have := h.lB
    exact ⟨_, h1.1, by omega, Nat.le_refl _⟩
  · have : ge (dvk 11 13 + 1) 8 8 ≤ 600000000 := by decide
    omega
  · have := k3 a b hab
    rw [hI] at this
    exact this
set_option maxHeartbeats 40000000 in
theorem rknown_meets (v : Value) (tw tc : Int) (w u : Value) (l : Row) (x y : Bool × List Nat) (hl : limR l) (htw : 0 ≤ tw ∧ tw < 256) (htc : 0 ≤ tc ∧ tc < 256) (hx : Lim x.2) (hy : Lim y.2) :
    Meets Try.prog 7 [v, .int .u8 tw, .int .u8 tc, w, u] [(v, V l), (w, J x), (u, J y)] (fun r os fs => os = [] ∧ fs = [] ∧ r = .bool true) := by
  obtain ⟨t, rfl⟩ : ∃ t : Nat, tw = t := ⟨tw.toNat, by omega⟩
  refine meets_of_vc Try.func7 (by kernel_rfl) rfl (by kernel_rfl) (Nat.le_of_ble_eq_true rfl) ?_
  refine box_rule (Reads.fact (d := J x) qM) fun lb hlb => ?_
  refine box_rule (Reads.fact (d := J y) qM) fun ub hub => ?_
  refine call_fn shown5_meets (Seals.refl _ _) qS ?_
  rintro _ _ _ ⟨rfl, rfl, rfl⟩
  refine call_fn (rFits_meets v l 5 1) (Seals.refl _ _) qS ?_
  rintro _ _ _ ⟨rfl, rfl, rfl⟩
  by_cases hs : smallR 5 1 l
  case neg =>
    rw [decide_eq_false (show ¬ (l.length ≤ 5 ∧ ∀ x, x ∈ l → x.2.length ≤ 1) from hs)]
    exact fin ⟨rfl, rfl, rfl⟩ (Seals.trans (Seals.drop 0 _ _) (Seals.trans (Seals.drop 0 _ _) (Seals.nil _ _)))
  rw [decide_eq_true (show l.length ≤ 5 ∧ ∀ x, x ∈ l → x.2.length ≤ 1 from hs)]
  refine field_box 1 rfl hlb ?_
  refine load_box_field 1 rfl (Part.right (Part.refl _)) (load_L _) fun u1 => ?_
  refine len_fact (v := u1) qM fun _ => ?_
  refine cmp_split _ rfl (fun hgt => ?_) (fun hgt => ?_)
  ·
    exact fin ⟨rfl, rfl, rfl⟩ (Seals.trans (Seals.drop 0 _ _) (Seals.trans (Seals.drop 0 _ _) (Seals.nil _ _)))
  have hx1 : x.2.length ≤ 1 := by omega
  refine field_box 0 rfl hub ?_
  refine load_box_field 0 rfl (Part.right (Part.refl _)) (load_L _) fun u1 => ?_
  refine len_fact (v := u1) qM fun _ => ?_
  refine cmp_split _ rfl (fun hgt2 => ?_) (fun hgt2 => ?_)
  ·
    exact fin ⟨rfl, rfl, rfl⟩ (Seals.trans (Seals.drop 0 _ _) (Seals.trans (Seals.drop 0 _ _) (Seals.nil _ _)))
  have hy1 : y.2.length ≤ 1 := by omega
  have hf := hs.fit hl
  have hl5 := hs.1
  refine conv_int ⟨_, Try.underlying5⟩ Try.underlying2 tc (wrap_in ⟨by omega, by omega⟩) ?_
  refine ar rfl qI ?_
  refine call_fn (num5_meets (tc + 1) (by omega) (by omega)) (Seals.refl _ _) qS ?_
  rintro k1 _ _ ⟨rfl, rfl⟩
  refine call_fn (num5_meets 0 (by decide) (by decide)) (Seals.refl _ _) qS ?_
  rintro k2 _ _ ⟨rfl, rfl⟩
  refine call_fn (num5_meets 1 (by decide) (by decide)) (Seals.refl _ _) qS ?_
  rintro k3 _ _ ⟨rfl, rfl⟩
  refine lit3K (size := 2) J z0 (cn (tc + 1)) (cn 0) (cn 1) (by decide) (Reads.fact (v := k1) (d := zd (tc + 1)) qM) (Reads.fact (v := k2) (d := zd 0) qM) (Reads.fact (v := k3) (d := zd 1) qM) rfl rfl rfl fun p0 => ?_
  refine empty5K J z0 (by decide) fun b0 => ?_
  refine empty5K J z0 (by decide) fun i0 => ?_
  refine loop_rule (X := KnS) (fun z => ([(0, v), (1, .int .u8 (t : Int)), (8, lb), (9, ub), (11, .bool true), (12, z.pv), (13, z.bv), (14, z.iv), (15, .int .i64 (z.i : Nat))], [own1 ub 2 1 (fun _ => J y), own1 lb 2 1 (fun _ => J x)], [(z.pv, vd z.P), (z.bv, vd z.B), (z.iv, vd z.I), (v, V l)]))
    (KnI tc (jv x) (jv y) l.length) (fun z => l.length - z.i) rfl ?_ ?_
  · refine again ⟨0, p0, [tc + 1, 0, 1], [], b0, [], i0, []⟩ ⟨Nat.zero_le _, .base fun _ => rfl, fun i => ?_, by simp, trivial, fun _ => Iff.rfl, Nat.le_refl _, fun x hx => by simp at hx, trivial, fun x => by simp, Nat.le_refl _⟩ trivial qF (Seals.sub (fs' := [(p0, vd [tc + 1, 0, 1]), (b0, vd []), (i0, vd []), (v, V l)]) qS)
    show ([tc + 1, 0, 1].getD i 0).natAbs ≤ 256
    match i with
    | 0 => show (tc + 1).natAbs ≤ 256; omega
    | 1 => show (0 : Int).natAbs ≤ 256; decide
    | 2 => show (1 : Int).natAbs ≤ 256; decide
    | i + 3 => simp
  rintro ⟨i, pv, P, A, bv, B, iv, I⟩ hk
  simp only
  refine len_fact (v := v) qM fun _ => ?_
  refine cmp_split _ rfl (fun hlt => ?_) (fun hlt => ?_)
  · have hin : i < l.length := by omega
    have hfi := hf.get i
    have hrz : sz (jv (l.getD i z0)) 1 := sz_jv hfi.1 hfi.2
    have hBz : ∀ t, t ∈ B → sz t 1 := fun t ht => hk.zA t ((hk.mB t).1 ht)
    have hIz : ∀ t, t ∈ I → sz t 1 := fun t ht => hk.zA t ((hk.mI t).1 ht).1
    have hlB : B.length ≤ i := hk.lB
    have hlI : I.length ≤ i := hk.lI
    have hPz : szR 11 P := kn_sz hk.bd (by simp only; omega)
    have hPl : P.length ≤ 3 + 2 * i := hk.len
    have hP2 : szR 11 (pmul P [-jv (l.getD i z0), 1]) := by
      have h1 := (kn_line hk.bd hrz).mono (Nat.le_mul_of_pos_right _ (show 0 < 18446744073709551616 by decide))
      rw [← kn_pow] at h1
      exact kn_sz h1 (by simp only; omega)
    have hP3 := kn_len (l := P) (jv (l.getD i z0))
    have hline : szR 1 [-jv (l.getD i z0), 1] := fun t ht => by
      simp only [List.mem_cons, List.not_mem_nil, or_false] at ht
      rcases ht with rfl | rfl
      · exact hrz.neg
      · exact sm5 1 (by decide)
    have hm1 := fun lv => pMulT pv lv P [-jv (l.getD i z0), 1] 11 1 hPz hline (by decide) (by omega) (by simp)
    have hm2 := fun qv lv => pMulT qv lv (pmul P [-jv (l.getD i z0), 1]) [-jv (l.getD i z0), 1] 11 1 hP2 hline (by decide) (by omega) (by simp)
    refine index_fact (v := v) qM i rfl (by omega) fun a1 => ?_
    refine load_fact (d := J (l.getD i z0)) qM (load_J _) fun a2 => ?_
    refine call_fn (rNegJ a2 (l.getD i z0) hfi.1 (by have := hfi.2; omega)) (Seals.refl _ _) qS ?_
    rintro a3 _ _ ⟨rfl, rfl⟩
    refine call_fn (num5_meets 1 (by decide) (by decide)) (Seals.refl _ _) qS ?_
    rintro a4 _ _ ⟨rfl, rfl⟩
    refine lit2_L (size := 2) J z0 (cn (-jv (l.getD i z0))) (cn 1) (by decide) (Reads.fact (v := a3) (d := zd (-jv (l.getD i z0))) qM) (Reads.fact (v := a4) (d := zd 1) qM) rfl rfl fun lv => ?_
    refine call_fn (hm1 lv) (Seals.refl _ _) qS ?_
    rintro qv _ _ ⟨rfl, rfl⟩
    refine rem_rule (by omega) (by decide) ?_
    have hi8 : ((i : Nat) : Int) % 8 = ((i % 8 : Nat) : Int) := by omega
    refine conv_int ⟨_, Try.underlying3⟩ Try.underlying50 (((i : Nat) : Int) % 8) (wrap_in ⟨by omega, by omega⟩) ?_
    refine shr_rule t (i % 8) (2 ^ (i % 8)) rfl hi8 rfl (by show i % 8 ≤ 8; omega) ?_
    have hsh : t / 2 ^ (i % 8) < 256 := Nat.lt_of_le_of_lt (Nat.div_le_self _ _) (by omega)
    refine and1_u8 (t / 2 ^ (i % 8)) hsh ?_
    refine cmp_split _ rfl (fun hbit => ?_) (fun hbit => ?_)
    · refine call_fn (hm2 qv lv) (Seals.refl _ _) qS ?_
      rintro qv2 _ _ ⟨rfl, rfl⟩
      refine index_fact (v := v) qM i rfl (by omega) fun c1 => ?_
      refine load_fact (d := J (l.getD i z0)) qM (load_J _) fun c2 => ?_
      refine call_fn (put5_meets bv c2 B (l.getD i z0) hBz hfi.1 hfi.2 (by omega)) (Seals.refl _ _) qS ?_
      rintro bv2 _ _ ⟨rfl, R, hR1, hR2, hR3, rfl⟩
      refine draw_rule [0, 1, 2, 3, 4, 5, 6, 7, 8, 9, 10, 11, 12, 13, 14, 15] [0, 1, 2, 3, 4, 5, 6, 7, 8, 9, 10, 11, 12, 13, 14, 15] (by kernel_rfl) (by kernel_rfl) ?_
      refine index_fact (v := v) qM i rfl (by omega) fun d1 => ?_
      refine load_fact (d := J (l.getD i z0)) qM (load_J _) fun d2 => ?_
      refine load_box (d := J x) 1 rfl hlb rfl (load_J _) fun d3 => ?_
      refine call_fn (rCmpJ5 d2 d3 (l.getD i z0) x 1 hfi.1 hfi.2 hx hx1 (by decide)) (Seals.refl _ _) qS ?_
      rintro _ _ _ ⟨rfl, rfl, rfl⟩
      refine cmp_split _ rfl (fun e1 => ?_) (fun e1 => ?_)
      · have e1' : jv x ≤ jv (l.getD i z0) := Int.not_lt.1 fun h => by
          rw [sgn_neg (show jv (l.getD i z0) - jv x < 0 by omega)] at e1; omega
        refine index_fact (v := v) qM i rfl (by omega) fun d4 => ?_
        refine load_fact (d := J (l.getD i z0)) qM (load_J _) fun d5 => ?_
        refine load_box (d := J y) 0 rfl hub rfl (load_J _) fun d6 => ?_
        refine call_fn (rCmpJ5 d5 d6 (l.getD i z0) y 1 hfi.1 hfi.2 hy hy1 (by decide)) (Seals.refl _ _) qS ?_
        rintro _ _ _ ⟨rfl, rfl, rfl⟩
        refine cmp_split _ rfl (fun e2 => ?_) (fun e2 => ?_)
        · have e2' : jv (l.getD i z0) ≤ jv y := Int.not_lt.1 fun h => by
            rw [sgn_pos (show 0 < jv (l.getD i z0) - jv y by omega)] at e2; omega
          refine index_fact (v := v) qM i rfl (by omega) fun d7 => ?_
          refine load_fact (d := J (l.getD i z0)) qM (load_J _) fun d8 => ?_
          refine call_fn (put5_meets iv d8 I (l.getD i z0) hIz hfi.1 hfi.2 (by omega)) (Seals.refl _ _) qS ?_
          rintro iv2 _ _ ⟨rfl, I2, hI1, hI2, hI3, rfl⟩
          refine ar rfl qI ?_
          exact again ⟨i + 1, qv2, (pmul (pmul P [-jv (l.getD i z0), 1]) [-jv (l.getD i z0), 1]), (jv (l.getD i z0) :: jv (l.getD i z0) :: A), bv2, R, iv2, I2⟩ (hk.next (z := ⟨i, pv, P, A, bv, B, iv, I⟩) hin hrz (.inr ⟨rfl, rfl⟩) ⟨hR1, hR2, hR3⟩ (.inl ⟨hI1, hI2, hI3, e1', e2'⟩)) (by simp only; omega) qF (Seals.sub qS)
        · have e2' : ¬ (jv x ≤ jv (l.getD i z0) ∧ jv (l.getD i z0) ≤ jv y) := fun h => e2 (by
            have := h.2
            rcases Int.lt_or_eq_of_le (show jv (l.getD i z0) - jv y ≤ 0 by omega) with g | g
            · rw [sgn_neg g]; decide
            · rw [g]; decide)
          refine ar rfl qI ?_
          exact again ⟨i + 1, qv2, (pmul (pmul P [-jv (l.getD i z0), 1]) [-jv (l.getD i z0), 1]), (jv (l.getD i z0) :: jv (l.getD i z0) :: A), bv2, R, iv, I⟩ (hk.next (z := ⟨i, pv, P, A, bv, B, iv, I⟩) hin hrz (.inr ⟨rfl, rfl⟩) ⟨hR1, hR2, hR3⟩ (.inr ⟨rfl, e2'⟩)) (by simp only; omega) qF (Seals.sub qS)
      · have e1' : ¬ (jv x ≤ jv (l.getD i z0) ∧ jv (l.getD i z0) ≤ jv y) := fun h => e1 (by
          have := h.1
          rcases Int.lt_or_eq_of_le (show 0 ≤ jv (l.getD i z0) - jv x by omega) with g | g
          · rw [sgn_pos g]; decide
          · rw [← g]; decide)
        refine ar rfl qI ?_
        exact again ⟨i + 1, qv2, (pmul (pmul P [-jv (l.getD i z0), 1]) [-jv (l.getD i z0), 1]), (jv (l.getD i z0) :: jv (l.getD i z0) :: A), bv2, R, iv, I⟩ (hk.next (z := ⟨i, pv, P, A, bv, B, iv, I⟩) hin hrz (.inr ⟨rfl, rfl⟩) ⟨hR1, hR2, hR3⟩ (.inr ⟨rfl, e1'⟩)) (by simp only; omega) qF (Seals.sub qS)
    ·
      refine index_fact (v := v) qM i rfl (by omega) fun c1 => ?_
      refine load_fact (d := J (l.getD i z0)) qM (load_J _) fun c2 => ?_
      refine call_fn (put5_meets bv c2 B (l.getD i z0) hBz hfi.1 hfi.2 (by omega)) (Seals.refl _ _) qS ?_
      rintro bv2 _ _ ⟨rfl, R, hR1, hR2, hR3, rfl⟩
      refine draw_rule [0, 1, 2, 3, 4, 5, 6, 7, 8, 9, 10, 11, 12, 13, 14, 15] [0, 1, 2, 3, 4, 5, 6, 7, 8, 9, 10, 11, 12, 13, 14, 15] (by kernel_rfl) (by kernel_rfl) ?_
      refine index_fact (v := v) qM i rfl (by omega) fun d1 => ?_
      refine load_fact (d := J (l.getD i z0)) qM (load_J _) fun d2 => ?_
      refine load_box (d := J x) 1 rfl hlb rfl (load_J _) fun d3 => ?_
      refine call_fn (rCmpJ5 d2 d3 (l.getD i z0) x 1 hfi.1 hfi.2 hx hx1 (by decide)) (Seals.refl _ _) qS ?_
      rintro _ _ _ ⟨rfl, rfl, rfl⟩
      refine cmp_split _ rfl (fun e1 => ?_) (fun e1 => ?_)
      · have e1' : jv x ≤ jv (l.getD i z0) := Int.not_lt.1 fun h => by
          rw [sgn_neg (show jv (l.getD i z0) - jv x < 0 by omega)] at e1; omega
        refine index_fact (v := v) qM i rfl (by omega) fun d4 => ?_
        refine load_fact (d := J (l.getD i z0)) qM (load_J _) fun d5 => ?_
        refine load_box (d := J y) 0 rfl hub rfl (load_J _) fun d6 => ?_
        refine call_fn (rCmpJ5 d5 d6 (l.getD i z0) y 1 hfi.1 hfi.2 hy hy1 (by decide)) (Seals.refl _ _) qS ?_
        rintro _ _ _ ⟨rfl, rfl, rfl⟩
        refine cmp_split _ rfl (fun e2 => ?_) (fun e2 => ?_)
        · have e2' : jv (l.getD i z0) ≤ jv y := Int.not_lt.1 fun h => by
            rw [sgn_pos (show 0 < jv (l.getD i z0) - jv y by omega)] at e2; omega
          refine index_fact (v := v) qM i rfl (by omega) fun d7 => ?_
          refine load_fact (d := J (l.getD i z0)) qM (load_J _) fun d8 => ?_
          refine call_fn (put5_meets iv d8 I (l.getD i z0) hIz hfi.1 hfi.2 (by omega)) (Seals.refl _ _) qS ?_
          rintro iv2 _ _ ⟨rfl, I2, hI1, hI2, hI3, rfl⟩
          refine ar rfl qI ?_
          exact again ⟨i + 1, qv, (pmul P [-jv (l.getD i z0), 1]), (jv (l.getD i z0) :: A), bv2, R, iv2, I2⟩ (hk.next (z := ⟨i, pv, P, A, bv, B, iv, I⟩) hin hrz (.inl ⟨rfl, rfl⟩) ⟨hR1, hR2, hR3⟩ (.inl ⟨hI1, hI2, hI3, e1', e2'⟩)) (by simp only; omega) qF (Seals.sub qS)
        · have e2' : ¬ (jv x ≤ jv (l.getD i z0) ∧ jv (l.getD i z0) ≤ jv y) := fun h => e2 (by
            have := h.2
            rcases Int.lt_or_eq_of_le (show jv (l.getD i z0) - jv y ≤ 0 by omega) with g | g
            · rw [sgn_neg g]; decide
            · rw [g]; decide)
          refine ar rfl qI ?_
          exact again ⟨i + 1, qv, (pmul P [-jv (l.getD i z0), 1]), (jv (l.getD i z0) :: A), bv2, R, iv, I⟩ (hk.next (z := ⟨i, pv, P, A, bv, B, iv, I⟩) hin hrz (.inl ⟨rfl, rfl⟩) ⟨hR1, hR2, hR3⟩ (.inr ⟨rfl, e2'⟩)) (by simp only; omega) qF (Seals.sub qS)
      · have e1' : ¬ (jv x ≤ jv (l.getD i z0) ∧ jv (l.getD i z0) ≤ jv y) := fun h => e1 (by
          have := h.1
          rcases Int.lt_or_eq_of_le (show 0 ≤ jv (l.getD i z0) - jv x by omega) with g | g
          · rw [sgn_pos g]; decide
          · rw [← g]; decide)
        refine ar rfl qI ?_
        exact again ⟨i + 1, qv, (pmul P [-jv (l.getD i z0), 1]), (jv (l.getD i z0) :: A), bv2, R, iv, I⟩ (hk.next (z := ⟨i, pv, P, A, bv, B, iv, I⟩) hin hrz (.inl ⟨rfl, rfl⟩) ⟨hR1, hR2, hR3⟩ (.inr ⟨rfl, e1'⟩)) (by simp only; omega) qF (Seals.sub qS)
  have hin : i = l.length := by have := hk.le; simp only at this; omega
  obtain ⟨g1, g2, g3, g4, g5, g6⟩ := hk.done htc.1 (by simp only; omega)
  have hIz : ∀ t, t ∈ I → sz t 1 := fun t ht => hk.zA t ((hk.mI t).1 ht).1
  have hlI : I.length ≤ i := hk.lI
  simp only at g1 g2 g3 g4 g5 g6
  have hall : ∀ (q : Value), Meets Try.prog 29 [q] [(q, vd P)] (fun r os fs => os = [] ∧ ∃ q Z e, r = .tuple #[q, .int .i64 e] ∧ AlSpec P Z e ∧ fs = [(q, vd Z)]) := fun q => by
    have := all_meets q (P.map cn) 11 13 g2.fit (by rw [List.length_map]; exact g3) (by decide) (by decide) (by rw [vv_cn]; exact g1 _ (by decide))
    rw [vv_cn] at this
    exact this
  have hcnt : ∀ q a b, Meets Try.prog 22 [q, a, b] [(q, vd P), (a, J x), (b, J y)] (fun r os fs => os = [] ∧ fs = [] ∧ ∃ c e, r = .tuple #[.int .i64 c, .int .i64 e] ∧ CntSpec P (jv x) (jv y) c e) := fun q a b => by
    have := count_meets q a b (P.map cn) x y 11 13 1 g2.fit (by rw [List.length_map]; exact g3) hx hx1 hy hy1 (by rw [vv_cn]; exact g1 _ (by decide))
    rw [vv_cn] at this
    exact this
  have hinn : ∀ q a b, Meets Try.prog 13 [q, a, b] [(q, vd P), (a, J x), (b, J y)] (fun r os fs => os = [] ∧ ∃ q O e, r = .tuple #[q, .int .i64 e] ∧ FlSpec P (jv x) (jv y) O e ∧ fs = [(q, vd (inL P O))]) := fun q a b => by
    have := in_meets q a b (P.map cn) x y 11 13 1 g2.fit (by rw [List.length_map]; exact g3) hx hx1 hy hy1 (by decide) (by decide) (by rw [vv_cn]; exact g1 _ (by decide))
    rw [vv_cn] at this
    exact this
  have hflo : ∀ q a b, Meets Try.prog 26 [q, a, b] [(q, vd P), (a, J x), (b, J y)] (fun r os fs => os = [] ∧ ∃ q O e, r = .tuple #[q, .int .i64 e] ∧ FlSpec P (jv x) (jv y) O e ∧ fs = [(q, vd O)]) := fun q a b => by
    have := floors_meets q a b (P.map cn) x y 11 13 1 g2.fit (by rw [List.length_map]; exact g3) hx hx1 hy hy1 (by decide) (by decide) (by rw [vv_cn]; exact g1 _ (by decide))
    rw [vv_cn] at this
    exact this
  refine call_fn (hall pv) (Seals.refl _ _) qS ?_
  rintro _ _ _ ⟨rfl, xv, Z, e, rfl, hZ, rfl⟩
  obtain ⟨rfl, rfl⟩ := g5 Z e hZ
  refine cmp_false rfl (by decide) ?_
  refine call_fn (exall5T xv bv _ _ rfl) (Seals.refl _ _) qS ?_
  rintro _ _ _ ⟨rfl, rfl, rfl⟩
  refine load_box (d := J x) 1 rfl hlb rfl (load_J _) fun e1 => ?_
  refine load_box (d := J y) 0 rfl hub rfl (load_J _) fun e2 => ?_
  refine call_fn (hcnt pv e1 e2) (Seals.refl _ _) qS ?_
  rintro _ _ _ ⟨rfl, rfl, c1, f1, rfl, hC⟩
  refine load_box (d := J x) 1 rfl hlb rfl (load_J _) fun e3 => ?_
  refine load_box (d := J y) 0 rfl hub rfl (load_J _) fun e4 => ?_
  refine call_fn (hinn pv e3 e4) (Seals.refl _ _) qS ?_
  rintro _ _ _ ⟨rfl, yv, O, f2, rfl, hO, rfl⟩
  refine load_box (d := J x) 1 rfl hlb rfl (load_J _) fun e5 => ?_
  refine load_box (d := J y) 0 rfl hub rfl (load_J _) fun e6 => ?_
  refine call_fn (hflo pv e5 e6) (Seals.refl _ _) qS ?_
  rintro _ _ _ ⟨rfl, zv, O2, f3, rfl, hO2, rfl⟩
  refine load_box (d := J y) 0 rfl hub rfl (load_J _) fun e7 => ?_
  refine load_box (d := J x) 1 rfl hlb rfl (load_J _) fun e8 => ?_
  refine call_fn (rCmpJ5 e7 e8 y x 1 hy hy1 hx hx1 (by decide)) (Seals.refl _ _) qS ?_
  rintro _ _ _ ⟨rfl, rfl, rfl⟩
  refine cmp_split _ rfl (fun hba => ?_) (fun hba => ?_)
  · have hba' : jv y < jv x := by have := sgn_lt.1 hba; omega
    obtain ⟨rfl, rfl⟩ := hC.bad (.inr hba')
    obtain ⟨rfl, rfl⟩ := hO.bad (.inr hba')
    obtain ⟨rfl, rfl⟩ := hO2.bad (.inr hba')
    refine cmp_true rfl rfl ?_
    refine cmp_true rfl rfl ?_
    refine cmp_true rfl rfl ?_
    exact fin ⟨rfl, rfl, rfl⟩ (Seals.trans (Seals.drop 0 _ _) (Seals.trans (Seals.drop 0 _ _) (Seals.nil _ _)))
  have hab : jv x ≤ jv y := Int.not_lt.1 fun h => hba (sgn_lt.2 (by omega))
  obtain ⟨m1, m2⟩ := g6 hab
  obtain ⟨hc, rfl⟩ := m1 _ _ hC
  obtain ⟨_, hO', rfl⟩ := m2 _ _ hO
  obtain ⟨rfl, _, rfl⟩ := m2 _ _ hO2
  rw [hO']
  have hml : (O2.map cn).length = O2.length := List.length_map _
  refine len_vd (v := iv) qM ?_
  refine draw_rule [0, 1, 2, 3, 4, 5, 6, 7, 8, 9] [0, 1, 2, 3, 4, 5, 6, 7, 8, 9] (by kernel_rfl) (by kernel_rfl) ?_
  refine cmp_split _ rfl (fun h0 => ?_) (fun h0 => ?_)
  · have h0' : 0 < O2.length := by omega
    refine index_fact (v := iv) qM 0 rfl (by omega) fun n1 => ?_
    refine load_fact (d := J ((O2.map cn).getD 0 z0)) qM (load_J _) fun n2 => ?_
    refine load_box (d := J x) 1 rfl hlb rfl (load_J _) fun n3 => ?_
    have hcm : ∀ a b, Meets Try.prog 16 [a, b] [(a, J ((O2.map cn).getD 0 z0)), (b, J x)] (fun r os fs => os = [] ∧ fs = [] ∧ r = .int .i64 (O2.getD 0 0 - jv x).sign) := fun a b => by
      rw [map_cn_get h0']
      have hz : sz (O2.getD 0 0) 1 := hIz _ (by rw [List.getD_eq_getElem?_getD, List.getElem?_eq_getElem h0']; exact List.getElem_mem _)
      have := rCmpJ5 a b (cn (O2.getD 0 0)) x 1 (Lim_lims _) hz.len hx hx1 (by decide)
      rw [jv_cn] at this
      exact this
    refine call_fn (hcm n2 n3) (Seals.refl _ _) qS ?_
    rintro _ _ _ ⟨rfl, rfl, rfl⟩
    refine cmp_split _ rfl (fun hq => ?_) (fun hq => ?_)
    · rw [if_pos ⟨h0', by have := sgn0.1 hq; omega⟩] at hc
      refine ar rfl qI ?_
      refine cmp_true rfl rfl ?_
      refine cmp_true rfl rfl ?_
      refine cmp_true rfl rfl ?_
      refine cmp_true rfl hc ?_
      refine call_fn (exall5T yv iv _ _ rfl) (Seals.refl _ _) qS ?_
      rintro _ _ _ ⟨rfl, rfl, rfl⟩
      refine call_fn (exall5T zv iv _ _ rfl) (Seals.refl _ _) qS ?_
      rintro _ _ _ ⟨rfl, rfl, rfl⟩
      exact fin ⟨rfl, rfl, rfl⟩ (Seals.trans (Seals.drop 0 _ _) (Seals.trans (Seals.drop 0 _ _) (Seals.nil _ _)))
    · rw [if_neg (fun h => hq (sgn0.2 (by omega)))] at hc
      refine cmp_true rfl rfl ?_
      refine cmp_true rfl rfl ?_
      refine cmp_true rfl rfl ?_
      refine cmp_true rfl (by omega) ?_
      refine call_fn (exall5T yv iv _ _ rfl) (Seals.refl _ _) qS ?_
      rintro _ _ _ ⟨rfl, rfl, rfl⟩
      refine call_fn (exall5T zv iv _ _ rfl) (Seals.refl _ _) qS ?_
      rintro _ _ _ ⟨rfl, rfl, rfl⟩
      exact fin ⟨rfl, rfl, rfl⟩ (Seals.trans (Seals.drop 0 _ _) (Seals.trans (Seals.drop 0 _ _) (Seals.nil _ _)))
  · rw [if_neg (fun h => h0 (by omega))] at hc
    refine cmp_true rfl rfl ?_
    refine cmp_true rfl rfl ?_
    refine cmp_true rfl rfl ?_
    refine cmp_true rfl (by omega) ?_
    refine call_fn (exall5T yv iv _ _ rfl) (Seals.refl _ _) qS ?_
    rintro _ _ _ ⟨rfl, rfl, rfl⟩
    refine call_fn (exall5T zv iv _ _ rfl) (Seals.refl _ _) qS ?_
    rintro _ _ _ ⟨rfl, rfl, rfl⟩
    exact fin ⟨rfl, rfl, rfl⟩ (Seals.trans (Seals.drop 0 _ _) (Seals.trans (Seals.drop 0 _ _) (Seals.nil _ _)))
end Go.Proofs.Ytgpcepcbdpigfaa
namespace Go.Proofs.Ytgpcepcbdpigfaa
open Go.ChangeShapes Go.WideShapes Go.ChangeAt Go.RowKit
open Go.Joins (open_agg2)
set_option maxRecDepth 100000 in
theorem rootsKnown_lifted (os : Os) (started : os.Started) (H : Type) (enc : TypeId × Value → H) :
    ReturnsInHanded {} Try.checked os 7 .any (Rows.rootsKnownSpec.pre6 enc Try.prog Try.f7 Rows.rootsKnownRow.domain false) (Rows.rootsKnownSpec.post enc Try.prog Try.f7 false true false false) := by
  refine returnsInHanded_of_change (C := Try.checked) own0 started (by kernel_rfl) Try.func7
    (ChangeSpec.witness6 (enc := enc) (C := Try.checked) false ⟨#[], #[.slice none 0 0, .int .u8 0, .int .u8 0, .agg #[.bool false, .slice none 0 0], .agg #[.bool false, .slice none 0 0]], []⟩ 8 (by kernel_rfl) (by kernel_rfl) (by kernel_rfl) (by kernel_rfl)) ?_
  intro Wd base args ds gs before hval0 hW hcnd _
  have hval : ∀ (j : Nat) t v, Try.f7.params[j]? = some t → args[j]? = some v → Value.okWide Try.prog Wd .any base t v := hval0
  have hW' := hW
  obtain ⟨p, q, hA0, hV, rfl, hfz, hnd⟩ := hW
  have hA : DataW.TrodAll enc Try.prog Wd 0 (fun _ => true) true Try.f7.params.toList args.toList ds p := hA0
  rw [Try.params7] at hA hval
  obtain ⟨v0, vs0, d0, ds0, p0, q0, hargs, rfl, rfl, h0, r0⟩ := trodAll_cons hA
  obtain ⟨v1, vs1, d1, ds1, p1, q1, rfl, rfl, rfl, h1, r1⟩ := trodAll_cons r0
  obtain ⟨v2, vs2, d2, ds2, p2, q2, rfl, rfl, rfl, h2, r2⟩ := trodAll_cons r1
  obtain ⟨v3, vs3, d3, ds3, p3, q3, rfl, rfl, rfl, h3, r3⟩ := trodAll_cons r2
  obtain ⟨v4, vs4, d4, ds4, p4, q4, rfl, rfl, rfl, h4, r4⟩ := trodAll_cons r3
  obtain ⟨rfl, rfl, rfl⟩ := trodAll_nil r4
  obtain rfl : args = #[v0, v1, v2, v3, v4] := by cases args; simp_all
  obtain ⟨rfl, rfl⟩ := trodVars_none hV
  obtain ⟨a0, n0, c0, rfl⟩ := okWide_slice Try.underlying22 (hval 0 22 v0 rfl rfl)
  have k0 := h0
  have lt0 : ∀ x ∈ p0, x.block < Wd.heap.size := by obtain ⟨m, hm⟩ := k0; exact DataW.trod_lt m _ _ _ hm
  obtain ⟨m0, lm0, rd0⟩ : ∃ m, limR m ∧ Rd (fun b => b < Wd.heap.size) Wd (.slice a0 n0 c0) (V m) := by
    obtain ⟨fuel, hf⟩ := h0
    obtain ⟨m, e1, e2⟩ := rd_row hf
    exact ⟨m, e1, rd_val rfl e2⟩
  obtain ⟨x1, rfl, rfl, rfl, w1⟩ := open_int Try.underlying5 (hval 1 5 v1 rfl rfl) h1
  obtain ⟨x2, rfl, rfl, rfl, w2⟩ := open_int Try.underlying5 (hval 2 5 v2 rfl rfl) h2
  have k3 := h3
  have lt3 : ∀ x ∈ p3, x.block < Wd.heap.size := by obtain ⟨m, hm⟩ := k3; exact DataW.trod_lt m _ _ _ hm
  obtain ⟨m3, lm3, rd3⟩ : ∃ m : Bool × List Nat, Lim m.2 ∧ Rd (fun b => b < Wd.heap.size) Wd v3 (J m) := rd_arg (hval 3 26 v3 rfl rfl) h3
  have k4 := h4
  have lt4 : ∀ x ∈ p4, x.block < Wd.heap.size := by obtain ⟨m, hm⟩ := k4; exact DataW.trod_lt m _ _ _ hm
  obtain ⟨m4, lm4, rd4⟩ : ∃ m : Bool × List Nat, Lim m.2 ∧ Rd (fun b => b < Wd.heap.size) Wd v4 (J m) := rd_arg (hval 4 26 v4 rfl rfl) h4
  clear hA0 hval0
  refine (calls_of_meets (w := Wd) (rknown_meets (.slice a0 n0 c0) x1 x2 v3 v4 m0 m3 m4 lm0 (u8_of w1) (u8_of w2) lm3 lm4) ?_).mono fun e W2 ⟨he, bel⟩ => ?_
  · intro F hF
    simp only [List.mem_cons, List.not_mem_nil, or_false] at hF
    rcases hF with rfl | rfl | rfl
    · exact rd0
    · exact rd3
    · exact rd4
  subst he
  exact ⟨_, rfl, _, _, _, [], _, [], hW', trodAll_mk1 (shut_bool Try.underlying4 _), (trodAll_cons_mk (Below.trod laid0 (by kernel_rfl) (of_decide_eq_true (by kernel_rfl)) k0 bel lt0) (trodAll_cons_mk (shut_int Try.underlying5 w1) (trodAll_cons_mk (shut_int Try.underlying5 w2) (trodAll_cons_mk (Below.trod laid0 (by kernel_rfl) (of_decide_eq_true (by kernel_rfl)) k3 bel lt3) (trodAll_cons_mk (Below.trod laid0 (by kernel_rfl) (of_decide_eq_true (by kernel_rfl)) k4 bel lt4) trodAll_mk0))))), rfl, bel.frame _, fun h => by cases h⟩
theorem rootsKnown_holds : Rows.RootsKnownSaid :=
  OpenClaim.holds_of_wide 7 Try.f7 rfl rfl rfl rfl rfl rfl rfl ⟨rfl, rfl, rfl, rfl, rfl⟩ rfl rfl rfl rfl rfl (by kernel_rfl) Try.func7 (by kernel_rfl)
    (of_decide_eq_true (by kernel_rfl)) (by unfold Func.isWrapper; first | (rw [if_pos (by decide +kernel)]; kernel_rfl) | (rw [if_neg (by decide +kernel)]; exact ⟨rfl, rfl⟩))
    (fun os started H enc _ => rootsKnown_lifted os started H enc)
#print axioms rootsKnown_holds
end Go.Proofs.Ytgpcepcbdpigfaa
