/- Towards the statement, part 4 of 6: contracts of functions, and what they rest on. Conditions: each theorem names its own. -/
import Derived.Test.YtgpcepcbdpigfaaGreatM3
set_option linter.unusedVariables false
set_option linter.unusedSimpArgs false
namespace Go.Proofs.YtgpcepcbdpigfaaGreat
theorem ipow_ne {a : Int} (h : a ≠ 0) : ∀ n : Nat, a ^ n ≠ 0
  | 0 => by rw [Int.pow_zero]; omega
  | n + 1 => by rw [Int.pow_succ]; exact Int.mul_ne_zero (ipow_ne h n) h
theorem gc_run : ∀ (n : Nat) (p q a b : List Int), dg b ≤ n → (0 < dg a → cont a = 1 ∧ 0 < ld a) → (0 < dg b → cont b = 1 ∧ 0 < ld b) → (dg a = 0 ∧ dg b = 0 → dg p = 0 ∧ dg q = 0) →
    (∀ h, cont h = 1 → (Dv h a ∧ Dv h b ↔ Dv h (pprim p) ∧ Dv h (pprim q))) → ∃ g, Gc g p q := by
  intro n
  induction n with
  | zero =>
    intro p q a b hb ha _ hz h
    have hb0 : dg b = 0 := by omega
    refine ⟨_, gcd_end (a := a) ha (fun h0 => hz ⟨h0, hb0⟩) fun d hd => ?_⟩
    rw [← h d hd]
    exact ⟨fun k => ⟨k, Dv.zero _ (dg_zero.1 hb0)⟩, fun k => k.1⟩
  | succ n ih =>
    intro p q a b hb ha hbp hz h
    by_cases h0 : dg b = 0
    · exact ih p q a b (by omega) ha hbp hz h
    obtain ⟨t, r, hr, e⟩ := pseudo (q := b) (by omega) (dg a) a (Nat.le_refl _)
    have hk : ld b ^ (dg a + 1 - dg b) ≠ 0 := fun e => by
      have := ld_ne (l := b) (by omega)
      exact ipow_ne this _ e
    refine ih p q b (pprim r) (by rw [pprim_dg]; omega) hbp (fun h1 => ?_) (fun h1 => by omega) fun d hd => ?_
    · rw [pprim_dg] at h1
      exact ⟨pprim_cont h1, pprim_ld h1⟩
    · rw [← h d hd, gcd_step hd hk e]
theorem gc_exists (p q : List Int) : ∃ g, Gc g p q := by
  refine gc_run _ p q (pprim p) (pprim q) (Nat.le_refl _) (fun h => ?_) (fun h => ?_) (fun h => ?_) fun _ _ => Iff.rfl
  · rw [pprim_dg] at h; exact ⟨pprim_cont h, pprim_ld h⟩
  · rw [pprim_dg] at h; exact ⟨pprim_cont h, pprim_ld h⟩
  · rwa [pprim_dg, pprim_dg] at h
theorem gc_mul {g p q r d : List Int} (h : Gc g p q) (h1 : Dv d (pmul p r)) (h2 : Dv d (pmul q r)) : Dv d (pmul g r) := by
  by_cases hr : dg r = 0
  · exact Dv.zero _ fun x => by rw [ev_pmul, dg_zero.1 hr]; simp
  obtain ⟨k, hk⟩ := gc_exists (pmul p r) (pmul q r)
  obtain ⟨a, ha⟩ := h.1
  obtain ⟨b, hb⟩ := h.2.1
  obtain ⟨u, hu⟩ := hk.2.2.1 (pmul g r) ⟨a, fun x => by rw [ev_pmul, ev_pmul, ha]; grind⟩ ⟨b, fun x => by rw [ev_pmul, ev_pmul, hb]; grind⟩
  have s : ∀ (p : List Int), Dv k (pmul p r) → Dv (pmul g u) p := fun p ⟨v, hv⟩ => ⟨v, fun x => by
    have := cancel (a := r) (u := p) (v := pmul (pmul g u) v) (by omega) (fun x => by
      have := hv x
      rw [hu, ev_pmul, ev_pmul] at this
      rw [ev_pmul, ev_pmul]; grind) x
    rw [this, ev_pmul]⟩
  obtain ⟨w, hw⟩ := h.2.2.1 _ (s p hk.1) (s q hk.2.1)
  refine (hk.2.2.1 d h1 h2).trans ⟨w, fun x => ?_⟩
  rw [ev_pmul, hw, ev_pmul, hu, ev_pmul]; grind
def Irr (h : List Int) : Prop := cont h = 1 ∧ 2 ≤ dg h ∧ ∀ d, cont d = 1 → Dv d h → dg d = 1 ∨ dg d = dg h
theorem Dv.prim_of {d h : List Int} (hh : cont h = 1) (k : Dv d h) : cont d = 1 := by
  have := k.cnt
  rw [hh] at this
  exact Nat.dvd_one.1 this
theorem irr_exists : ∀ (n : Nat) (p : List Int), dg p ≤ n → cont p = 1 → 2 ≤ dg p → ∃ h, Irr h ∧ Dv h p
  | 0, p, h, _, h2 => by omega
  | n + 1, p, hn, hc, h2 => by
    by_cases h : Irr p
    · exact ⟨p, h, Dv.refl p⟩
    · have : ∃ d, cont d = 1 ∧ Dv d p ∧ dg d ≠ 1 ∧ dg d ≠ dg p := Classical.byContradiction fun hn => h ⟨hc, h2, fun d h3 h4 => by
        by_cases e : dg d = 1
        · exact .inl e
        · by_cases e2 : dg d = dg p
          · exact .inr e2
          · exact (hn ⟨d, h3, h4, e, e2⟩).elim⟩
      obtain ⟨d, h3, h4, h5, h6⟩ := this
      have := h4.deg (by omega)
      obtain ⟨h, h7, h8⟩ := irr_exists n d (by omega) h3 (by omega)
      exact ⟨h, h7, h8.trans h4⟩
theorem Dv.back {d h : List Int} (hh : cont h = 1) (k : Dv d h) (e : dg d = dg h) : Dv h d := by
  have h0 : 0 < dg h := Nat.pos_of_ne_zero fun e => by rw [cont_zero.2 e] at hh; omega
  obtain ⟨u, hu⟩ := k
  have hu0 : 0 < dg u := dg_pos fun e => by
    have := (dg_zero (l := h)).2 fun x => by rw [hu, e]; simp
    omega
  have h1 := (mul_dg hu (by omega) hu0).1
  have h2 := cont_prod hu
  rw [hh] at h2
  have h3 : cont u = 1 := by
    exact Nat.eq_one_of_mul_eq_one_left h2.symm
  have h4 : ∀ x, pev u x = u.getD 0 0 := const_ev (by omega)
  have h5 : cont u = (u.getD 0 0).natAbs := by
    have := cont_ext (l := u) (m := [u.getD 0 0]) fun x => by rw [h4]; simp [pev]
    rw [this]; simp [cont]
  have h6 : u.getD 0 0 * u.getD 0 0 = 1 := by
    have : (u.getD 0 0).natAbs = 1 := by omega
    have h7 := Int.natAbs_mul_self (a := u.getD 0 0)
    rw [this] at h7; simpa using h7.symm
  exact ⟨u, fun x => by rw [hu, h4, Int.mul_assoc, h6, Int.mul_one]⟩
theorem irr_prime {h a b c : List Int} (hh : Irr h) (e : ∀ x, pev c x = pev a x * pev b x) (k : Dv h c) : Dv h a ∨ Dv h b := by
  obtain ⟨g, hg⟩ := gc_exists h a
  have hc := hg.1.prim_of hh.1
  rcases hh.2.2 g hc hg.1 with h1 | h1
  · right
    have h2 : Dv h (pmul g b) := gc_mul hg ⟨b, fun x => ev_pmul _ _ _⟩ (k.ext (fun _ => rfl) fun x => by rw [e, ev_pmul])
    have h4 : ∀ x, pev g x = g.getD 0 0 := const_ev (by omega)
    have h5 : g.getD 0 0 ≠ 0 := by
      have := ld_ne (l := g) (by omega)
      rwa [ld, show dg g - 1 = 0 by omega] at this
    exact Dv.prim hh.1 h5 (h2.ext (fun _ => rfl) fun x => by rw [ev_pmul, ev_map_mul, h4])
  · left
    exact (hg.1.back hh.1 h1).trans hg.2.1
def ppow (h : List Int) : Nat → List Int
  | 0 => [1]
  | n + 1 => pmul (ppow h n) h
theorem ev_ppow (h : List Int) (n : Nat) (x : Int) : pev (ppow h n) x = pev h x ^ n := by
  induction n with
  | zero => simp [ppow, pev]
  | succ n ih => rw [ppow, ev_pmul, ih, Int.pow_succ]
theorem val_exists {h : List Int} (hh : Irr h) : ∀ (n : Nat) (w : List Int), dg w ≤ n → 0 < dg w → ∃ k v, ¬ Dv h v ∧ ∀ x, pev w x = pev h x ^ k * pev v x
  | 0, w, h1, h2 => by omega
  | n + 1, w, h1, h2 => by
    by_cases hd : Dv h w
    · obtain ⟨u, hu⟩ := hd
      have hu0 : 0 < dg u := dg_pos fun e => by
        have := (dg_zero (l := w)).2 fun x => by rw [hu, e]; simp
        omega
      have h3 := (mul_dg hu (by have := hh.2.1; omega) hu0).1
      have h4 := hh.2.1
      obtain ⟨k, v, h5, h6⟩ := val_exists hh n u (by omega) hu0
      exact ⟨k + 1, v, h5, fun x => by rw [hu, h6, Int.pow_succ]; grind⟩
    · exact ⟨0, w, hd, fun x => by simp⟩
def pder (l : List Int) : List Int := nrm (lst (l.length - 1) fun i => ((i + 1 : Nat) : Int) * l.getD (i + 1) 0)
theorem co_pder (l : List Int) (i : Nat) : (pder l).getD i 0 = ((i + 1 : Nat) : Int) * l.getD (i + 1) 0 := by
  rw [pder, co_nrm, lst_get']
  split
  · rfl
  · rw [getD_none (l := l) (by omega)]; simp
theorem ev_co {l m : List Int} (h : ∀ i, l.getD i 0 = m.getD i 0) (x : Int) : pev l x = pev m x := ev_of_nrm (nrm_ext h) x
theorem pder_ext {l m : List Int} (h : ∀ x, pev l x = pev m x) (x : Int) : pev (pder l) x = pev (pder m) x := ev_co (fun i => by rw [co_pder, co_pder, co_ext h]) x
theorem pder_nm (l : List Int) : Nm (pder l) := nrm_nrm _
theorem pder_nil : pder [] = [] := rfl
theorem pder_cons (c : Int) (l : List Int) (x : Int) : pev (pder (c :: l)) x = pev l x + x * pev (pder l) x := by
  have e : pev (pder (c :: l)) x = pev (padd l (0 :: pder l)) x := ev_co (fun i => by
    rw [co_pder, co_padd, List.getD_cons_succ]
    cases i with
    | zero => simp
    | succ i => rw [List.getD_cons_succ, co_pder]; push_cast; grind) x
  rw [e, ev_padd]; simp [pev]
theorem pder_padd (l m : List Int) (x : Int) : pev (pder (padd l m)) x = pev (pder l) x + pev (pder m) x := by
  rw [← ev_padd]
  exact ev_co (fun i => by rw [co_pder, co_padd, co_padd, co_pder, co_pder]; grind) x
theorem pder_ptim (c : Int) (l : List Int) (x : Int) : pev (pder (ptim c l)) x = c * pev (pder l) x := by
  rw [← ev_ptim]
  exact ev_co (fun i => by rw [co_pder, co_ptim, co_ptim, co_pder]; grind) x
theorem pder_pmul : ∀ (l m : List Int) (x : Int), pev (pder (pmul l m)) x = pev (pder l) x * pev m x + pev l x * pev (pder m) x
  | [], m, x => by
    have : pev (pder (pmul [] m)) x = pev (pder []) x := pder_ext (fun x => by rw [ev_pmul]; simp [pev]) x
    rw [this]; simp [pder_nil, pev]
  | c :: l, m, x => by
    have e : pev (pder (pmul (c :: l) m)) x = pev (pder (padd (ptim c m) (0 :: pmul l m))) x := pder_ext (fun x => by
      rw [ev_pmul, ev_padd, ev_ptim]; simp only [pev]; rw [ev_pmul]; grind) x
    rw [e, pder_padd, pder_ptim, pder_cons, pder_cons, pder_pmul l m x, ev_pmul]; simp only [pev]; grind
theorem pder_mul {a b c : List Int} (e : ∀ x, pev c x = pev a x * pev b x) (x : Int) : pev (pder c) x = pev (pder a) x * pev b x + pev a x * pev (pder b) x := by
  rw [← pder_pmul]; exact pder_ext (fun x => by rw [e, ev_pmul]) x
theorem pder_dg {l : List Int} (h : 2 ≤ dg l) : dg (pder l) + 1 = dg l := by
  have h1 : dg (pder l) ≤ dg l - 1 := dg_le.2 fun i hi => by rw [co_pder, dg_le.1 (Nat.le_refl (dg l)) _ (by omega), Int.mul_zero]
  have h2 : ¬ dg (pder l) ≤ dg l - 2 := fun hn => by
    have h3 := dg_le.1 hn (dg l - 2) (Nat.le_refl _)
    rw [co_pder, show dg l - 2 + 1 = dg l - 1 by omega] at h3
    have h4 : ld l ≠ 0 := ld_ne (by omega)
    rcases Int.mul_eq_zero.1 h3 with h5 | h5
    · omega
    · exact h4 h5
  omega
theorem pder_low {l : List Int} (h : dg l ≤ 1) (x : Int) : pev (pder l) x = 0 := by
  refine dg_zero.1 (Nat.le_zero.1 (dg_le.2 fun i _ => ?_)) x
  rw [co_pder, dg_le.1 h _ (by omega), Int.mul_zero]
theorem pder_ppow (h : List Int) : ∀ (n : Nat) (x : Int), pev (pder (ppow h (n + 1))) x = ((n + 1 : Nat) : Int) * pev h x ^ n * pev (pder h) x
  | 0, x => by
    have : pev (pder (ppow h (0 + 1))) x = pev (pder h) x := pder_ext (fun x => by rw [ev_ppow, Int.pow_succ, Int.pow_zero, Int.one_mul]) x
    rw [this]; simp
  | n + 1, x => by
    rw [ppow, pder_pmul, pder_ppow h n x, ev_ppow]; push_cast; grind
theorem simple_once {w g s h : List Int} (hw : 0 < dg w) (hg : Gc g w (pder w)) (hs : ∀ x, pev w x = pev g x * pev s x) (hh : Irr h) (hd : Dv h w) :
    Dv h s ∧ ∀ f, (∀ x, pev s x = pev h x * pev f x) → ¬ Dv h f := by
  obtain ⟨k, v, hv, ev⟩ := val_exists hh _ w (Nat.le_refl _) hw
  have h2 := hh.2.1
  cases k with
  | zero => exact (hv (hd.ext (fun _ => rfl) fun x => by rw [ev]; simp)).elim
  | succ k =>
    have e1 : ∀ x, pev w x = pev (ppow h (k + 1)) x * pev v x := fun x => by rw [ev, ev_ppow]
    have e2 : ∀ x, pev (pder w) x = pev h x ^ k * pev (padd (pmul (ptim ((k + 1 : Nat) : Int) (pder h)) v) (pmul h (pder v))) x := fun x => by
      rw [pder_mul e1, pder_ppow, ev_ppow, ev_padd, ev_pmul, ev_ptim, ev_pmul, Int.pow_succ]; grind
    have h3 : ¬ Dv h (padd (pmul (ptim ((k + 1 : Nat) : Int) (pder h)) v) (pmul h (pder v))) := fun hc => by
      have h4 : Dv h (pmul (ptim ((k + 1 : Nat) : Int) (pder h)) v) := hc.sub (c := pmul h (pder v)) ⟨pder v, fun x => ev_pmul _ _ _⟩ fun x => by rw [ev_padd]; omega
      rcases irr_prime hh (fun x => ev_pmul _ _ _) h4 with h5 | h5
      · have h6 : dg (ptim ((k + 1 : Nat) : Int) (pder h)) = dg (pder h) := by
          have a1 : dg [((k + 1 : Nat) : Int)] = 1 := by simp only [dg, nrm]; rw [if_neg (by omega)]; rfl
          have := (mul_dg (a := [((k + 1 : Nat) : Int)]) (b := pder h) (c := ptim ((k + 1 : Nat) : Int) (pder h)) (fun x => by rw [ev_ptim]; simp [pev]) (by omega) (by have := pder_dg h2; omega)).1
          omega
        have h7 := pder_dg h2
        have := h5.deg (by omega)
        omega
      · exact hv h5
    have hpk : 0 < dg (ppow h k) := dg_pos fun e => by
      have := (dg_zero (l := w)).2 fun x => by
        rw [ev, Int.pow_succ, ← ev_ppow, e]; simp
      omega
    obtain ⟨e, he⟩ : Dv (ppow h k) g := hg.2.2.1 _ ⟨pmul h v, fun x => by rw [ev, ev_ppow, ev_pmul, Int.pow_succ]; grind⟩ ⟨padd (pmul (ptim ((k + 1 : Nat) : Int) (pder h)) v) (pmul h (pder v)), fun x => by rw [e2, ev_ppow]⟩
    have h8 : ¬ Dv h e := fun ⟨m, hm⟩ => h3 (by
      obtain ⟨z, hz⟩ := hg.2.1
      have h10 := cancel (u := padd (pmul (ptim ((k + 1 : Nat) : Int) (pder h)) v) (pmul h (pder v))) (v := pmul h (pmul m z)) hpk fun x => by
        rw [ev_ppow, ← e2, hz, he, hm, ev_ppow, ev_pmul, ev_pmul]; grind
      exact ⟨pmul m z, fun x => by rw [h10, ev_pmul]⟩)
    have h9 : ∀ x, pev (pmul h v) x = pev e x * pev s x := fun x => by
      rw [← ev_pmul]
      exact cancel hpk (fun x => by
        have := hs x
        rw [ev, he, ev_ppow, Int.pow_succ] at this
        rw [ev_ppow, ev_pmul, ev_pmul]; grind) x
    rcases irr_prime hh h9 ⟨v, fun x => ev_pmul _ _ _⟩ with h10 | h10
    · exact (h8 h10).elim
    · refine ⟨h10, fun f hf hdf => hv ?_⟩
      have : ∀ x, pev v x = pev (pmul e f) x := cancel (a := h) (by omega) fun x => by
        have := h9 x
        rw [ev_pmul, hf] at this
        rw [ev_pmul]; grind
      obtain ⟨y, hy⟩ := hdf
      exact ⟨pmul e y, fun x => by rw [this, ev_pmul, hy, ev_pmul]; grind⟩
theorem simple_free {w g s d : List Int} (hw : 0 < dg w) (hc : cont w = 1) (hg : Gc g w (pder w)) (hs : ∀ x, pev w x = pev g x * pev s x) (hd : Gc d s (pder s)) : dg d = 1 := by
  have hsw : Dv s w := ⟨g, fun x => by rw [hs]; grind⟩
  have hcs := hsw.prim_of hc
  have h0 : 0 < dg s := (hsw.deg hw).1
  have h1 := (hd.1.deg h0).1
  refine Classical.byContradiction fun hn => ?_
  obtain ⟨h, hh, hdv⟩ := irr_exists _ d (Nat.le_refl _) (hd.1.prim_of hcs) (by omega)
  have h2 := hdv.trans hd.1
  obtain ⟨k1, k2⟩ := simple_once hw hg hs hh (h2.trans hsw)
  obtain ⟨f, hf⟩ := h2
  refine k2 f hf ?_
  have h3 : Dv h (pmul (pder h) f) := (hdv.trans hd.2.1).sub (c := pmul h (pder f)) ⟨pder f, fun x => ev_pmul _ _ _⟩ fun x => by
    rw [pder_mul hf, ev_pmul, ev_pmul]; omega
  rcases irr_prime hh (fun x => ev_pmul _ _ _) h3 with h4 | h4
  · have h5 := pder_dg hh.2.1
    have := h4.deg (by have := hh.2.1; omega)
    omega
  · exact h4
end Go.Proofs.YtgpcepcbdpigfaaGreat
namespace Go.Proofs.YtgpcepcbdpigfaaGreat
def gh : List Int → Int → Int → Int
  | [], _, _ => 0
  | c :: l, w, u => c * w ^ (l.length + 1) + u * gh l w u
def ghl (w : Int) : List Int → List Int
  | [] => []
  | c :: l => c * w ^ (l.length + 1) :: ghl w l
def g1 : List Int → Int → Int → Int
  | [], _, _ => 0
  | _ :: l, w, u => gh l w u + u * g1 l w u
def g1l (w : Int) : List Int → List Int
  | [] => []
  | _ :: l => padd (ghl w l) (0 :: g1l w l)
theorem ghl_ev (w u : Int) (l : List Int) : pev (ghl w l) u = gh l w u := by
  induction l with
  | nil => rfl
  | cons c l ih => simp only [ghl, gh, pev, ih]
theorem g1l_ev (w u : Int) (l : List Int) : pev (g1l w l) u = g1 l w u := by
  induction l with
  | nil => rfl
  | cons c l ih => simp only [g1l, g1, ev_padd, ghl_ev, pev, ih]; omega
theorem gh_at (w x : Int) (l : List Int) : gh l w (w * x) = w ^ l.length * pev l x := by
  induction l with
  | nil => simp [gh, pev]
  | cons c l ih => simp only [gh, pev, ih, List.length_cons, Int.pow_succ]; grind
theorem g1_at (w x : Int) (l : List Int) : w * g1 l w (w * x) = w ^ l.length * pev (pder l) x := by
  induction l with
  | nil => rw [pder_nil]; simp [g1, pev]
  | cons c l ih =>
    rw [pder_cons]
    simp only [g1, gh_at, List.length_cons, Int.pow_succ]
    have : w * (w ^ l.length * pev l x + w * x * g1 l w (w * x)) = w ^ l.length * w * pev l x + w * x * (w * g1 l w (w * x)) := by grind
    rw [this, ih]; grind
def gC (M : Nat) : List Int → Nat
  | [] => 0
  | c :: l => c.natAbs + M * gC M l
def gD (M : Nat) : List Int → Nat
  | [] => 0
  | _ :: l => M * gD M l + gC (M + 1) l
def gF (M : Nat) : List Int → Nat
  | [] => 0
  | _ :: l => M * gF M l + gD M l
theorem gh_le {M w : Nat} {u : Int} (h : u.natAbs ≤ M * w) (l : List Int) : (gh l w u).natAbs ≤ gC M l * w ^ l.length := by
  induction l with
  | nil => simp [gh]
  | cons c l ih =>
    have h1 := Int.natAbs_add_le (c * (w : Int) ^ (l.length + 1)) (u * gh l w u)
    rw [Int.natAbs_mul, Int.natAbs_mul, Int.natAbs_pow, Int.natAbs_natCast] at h1
    have h2 : u.natAbs * (gh l w u).natAbs ≤ (M * w) * (gC M l * w ^ l.length) := Nat.mul_le_mul h ih
    have h3 : (c.natAbs + M * gC M l) * w ^ (l.length + 1) = c.natAbs * w ^ (l.length + 1) + (M * w) * (gC M l * w ^ l.length) := by
      rw [Nat.pow_succ]; grind
    show (c * (w : Int) ^ (l.length + 1) + u * gh l w u).natAbs ≤ (c.natAbs + M * gC M l) * w ^ (l.length + 1)
    omega
theorem up_le {M w : Nat} {u : Int} (h : u.natAbs ≤ M * w) (hw : 1 ≤ w) : (u + 1).natAbs ≤ (M + 1) * w := by
  rw [Nat.succ_mul]; omega
theorem gh_lip {M w : Nat} {u : Int} (h : u.natAbs ≤ M * w) (hw : 1 ≤ w) (l : List Int) : (gh l w (u + 1) - gh l w u).natAbs * w ≤ gD M l * w ^ l.length := by
  induction l with
  | nil => simp [gh]
  | cons c l ih =>
    have e : gh (c :: l) w (u + 1) - gh (c :: l) w u = u * (gh l w (u + 1) - gh l w u) + gh l w (u + 1) := by simp only [gh]; grind
    have h1 := Int.natAbs_add_le (u * (gh l w (u + 1) - gh l w u)) (gh l w (u + 1))
    rw [Int.natAbs_mul] at h1
    have h2 := gh_le (up_le h hw) l
    rw [e]
    have h3 : u.natAbs * ((gh l w (u + 1) - gh l w u).natAbs * w) ≤ (M * w) * (gD M l * w ^ l.length) := Nat.mul_le_mul h ih
    have h4 : (u * (gh l w (u + 1) - gh l w u) + gh l w (u + 1)).natAbs * w ≤ (u.natAbs * (gh l w (u + 1) - gh l w u).natAbs + (gh l w (u + 1)).natAbs) * w := Nat.mul_le_mul_right _ h1
    have h5 : (gh l w (u + 1)).natAbs * w ≤ gC (M + 1) l * w ^ l.length * w := Nat.mul_le_mul_right _ h2
    have h6 : (M * gD M l + gC (M + 1) l) * w ^ (l.length + 1) = (M * w) * (gD M l * w ^ l.length) + gC (M + 1) l * w ^ l.length * w := by rw [Nat.pow_succ]; grind
    have h7 : (u.natAbs * (gh l w (u + 1) - gh l w u).natAbs + (gh l w (u + 1)).natAbs) * w = u.natAbs * ((gh l w (u + 1) - gh l w u).natAbs * w) + (gh l w (u + 1)).natAbs * w := by grind
    show _ ≤ (M * gD M l + gC (M + 1) l) * w ^ (l.length + 1)
    omega
theorem gh_der {M w : Nat} {u : Int} (h : u.natAbs ≤ M * w) (hw : 1 ≤ w) (l : List Int) : (gh l w (u + 1) - gh l w u - g1 l w u).natAbs * (w * w) ≤ gF M l * w ^ l.length := by
  induction l with
  | nil => simp [gh, g1]
  | cons c l ih =>
    have e : gh (c :: l) w (u + 1) - gh (c :: l) w u - g1 (c :: l) w u = u * (gh l w (u + 1) - gh l w u - g1 l w u) + (gh l w (u + 1) - gh l w u) := by simp only [gh, g1]; grind
    have h1 := Int.natAbs_add_le (u * (gh l w (u + 1) - gh l w u - g1 l w u)) (gh l w (u + 1) - gh l w u)
    rw [Int.natAbs_mul] at h1
    have h2 := gh_lip h hw l
    rw [e]
    generalize gh l w (u + 1) - gh l w u - g1 l w u = E at *
    generalize gh l w (u + 1) - gh l w u = D at *
    have h3 : u.natAbs * (E.natAbs * (w * w)) ≤ (M * w) * (gF M l * w ^ l.length) := Nat.mul_le_mul h ih
    have h4 : (u * E + D).natAbs * (w * w) ≤ (u.natAbs * E.natAbs + D.natAbs) * (w * w) := Nat.mul_le_mul_right _ h1
    have h5 : D.natAbs * w * w ≤ gD M l * w ^ l.length * w := Nat.mul_le_mul_right _ h2
    have h6 : (M * gF M l + gD M l) * w ^ (l.length + 1) = (M * w) * (gF M l * w ^ l.length) + gD M l * w ^ l.length * w := by rw [Nat.pow_succ]; grind
    have h7 : (u.natAbs * E.natAbs + D.natAbs) * (w * w) = u.natAbs * (E.natAbs * (w * w)) + D.natAbs * w * w := by grind
    show _ ≤ (M * gF M l + gD M l) * w ^ (l.length + 1)
    omega
def pst (w : Int) : List Int → List Int
  | [] => []
  | c :: l => c :: (pst w l).map (fun y => w * y)
theorem ev_pst (w : Int) (l : List Int) (x : Int) : pev (pst w l) x = pev l (w * x) := by
  induction l with
  | nil => rfl
  | cons c l ih => simp only [pst, pev, ev_map_mul, ih]; grind
theorem co_pst (w : Int) (l : List Int) (i : Nat) : (pst w l).getD i 0 = w ^ i * l.getD i 0 := by
  induction l generalizing i with
  | nil => simp [pst]
  | cons c l ih =>
    cases i with
    | zero => simp [pst]
    | succ i =>
      show ((pst w l).map fun y => w * y).getD i 0 = _
      rw [co_map, ih, List.getD_cons_succ, Int.pow_succ]; grind
theorem mult_ext {F G : List Int} {w : Int} (hw : w ≠ 0) (h : ∀ x, pev F (w * x) = pev G (w * x)) (u : Int) : pev F u = pev G u := by
  have h1 : ∀ i, F.getD i 0 = G.getD i 0 := fun i => by
    have := co_ext (l := pst w F) (m := pst w G) (fun x => by rw [ev_pst, ev_pst, h]) i
    rw [co_pst, co_pst] at this
    exact Int.eq_of_mul_eq_mul_left (Int.pow_ne_zero hw) this
  rw [← ev_nrm F, ← ev_nrm G, nrm_ext h1]
theorem gh_bez {A B U V : List Int} {R : Int} (h : ∀ x, pev U x * pev A x + pev V x * pev B x = R) {w : Int} (hw : w ≠ 0) (u : Int) :
    w ^ (V.length + B.length) * (gh U w u * gh A w u) + w ^ (U.length + A.length) * (gh V w u * gh B w u) = R * w ^ (U.length + A.length + (V.length + B.length)) := by
  have := mult_ext hw (F := padd (ptim (w ^ (V.length + B.length)) (pmul (ghl w U) (ghl w A))) (ptim (w ^ (U.length + A.length)) (pmul (ghl w V) (ghl w B)))) (G := [R * w ^ (U.length + A.length + (V.length + B.length))]) (fun x => by
    rw [ev_padd, ev_ptim, ev_ptim, ev_pmul, ev_pmul]
    simp only [ghl_ev, gh_at, pev]
    have e1 : w ^ (V.length + B.length) * (w ^ U.length * pev U x * (w ^ A.length * pev A x)) = w ^ (U.length + A.length + (V.length + B.length)) * (pev U x * pev A x) := by simp only [Int.pow_add]; grind
    have e2 : w ^ (U.length + A.length) * (w ^ V.length * pev V x * (w ^ B.length * pev B x)) = w ^ (U.length + A.length + (V.length + B.length)) * (pev V x * pev B x) := by simp only [Int.pow_add]; grind
    rw [e1, e2, ← Int.mul_add, h]; grind) u
  rw [ev_padd, ev_ptim, ev_ptim, ev_pmul, ev_pmul] at this
  simp only [ghl_ev, pev] at this
  omega
theorem gh_rel {A B C q : List Int} {α β : Int} (h : ∀ x, α * pev A x = pev q x * pev B x - β * pev C x) {w : Int} (hw : w ≠ 0) (u : Int) :
    w ^ (q.length + B.length + C.length) * (α * gh A w u) = w ^ (A.length + C.length) * (gh q w u * gh B w u) - w ^ (A.length + q.length + B.length) * (β * gh C w u) := by
  have := mult_ext hw (F := ptim (w ^ (q.length + B.length + C.length) * α) (ghl w A)) (G := psub (ptim (w ^ (A.length + C.length)) (pmul (ghl w q) (ghl w B))) (ptim (w ^ (A.length + q.length + B.length) * β) (ghl w C))) (fun x => by
    rw [ev_psub, ev_ptim, ev_ptim, ev_ptim, ev_pmul]
    simp only [ghl_ev, gh_at]
    have e0 : w ^ (q.length + B.length + C.length) * α * (w ^ A.length * pev A x) = w ^ (A.length + q.length + B.length + C.length) * (α * pev A x) := by simp only [Int.pow_add]; grind
    have e1 : w ^ (A.length + C.length) * (w ^ q.length * pev q x * (w ^ B.length * pev B x)) = w ^ (A.length + q.length + B.length + C.length) * (pev q x * pev B x) := by simp only [Int.pow_add]; grind
    have e2 : w ^ (A.length + q.length + B.length) * β * (w ^ C.length * pev C x) = w ^ (A.length + q.length + B.length + C.length) * (β * pev C x) := by simp only [Int.pow_add]; grind
    rw [e0, e1, e2, h]; grind) u
  rw [ev_psub, ev_ptim, ev_ptim, ev_ptim, ev_pmul] at this
  simp only [ghl_ev] at this
  grind
theorem g1_der (l : List Int) {w : Int} (hw : w ≠ 0) (u : Int) : w ^ (pder l).length * (w * g1 l w u) = w ^ l.length * gh (pder l) w u := by
  have := mult_ext hw (F := ptim (w ^ (pder l).length * w) (g1l w l)) (G := ptim (w ^ l.length) (ghl w (pder l))) (fun x => by
    rw [ev_ptim, ev_ptim]
    simp only [ghl_ev, g1l_ev, gh_at]
    rw [Int.mul_assoc, g1_at]; grind) u
  rw [ev_ptim, ev_ptim] at this
  simp only [ghl_ev, g1l_ev] at this
  grind
def tch (l : List Int) (w : Nat) (u : Int) : Prop := gh l w u * gh l w (u + 1) ≤ 0
theorem abs_of_mul {a b : Int} (h : a * b ≤ 0) : a.natAbs ≤ (b - a).natAbs := by
  rcases Int.lt_trichotomy a 0 with ha | ha | ha
  · have : 0 ≤ b := Int.le_of_not_gt fun hb => by have := Int.mul_pos_of_neg_of_neg ha hb; omega
    omega
  · omega
  · have : b ≤ 0 := Int.le_of_not_gt fun hb => by have := Int.mul_pos ha hb; omega
    omega
theorem tch_small {M w : Nat} {u : Int} {l : List Int} (h : u.natAbs ≤ M * w) (hw : 1 ≤ w) (ht : tch l w u) : (gh l w u).natAbs * w ≤ gD M l * w ^ l.length :=
  Nat.le_trans (Nat.mul_le_mul_right _ (abs_of_mul ht)) (gh_lip h hw l)
theorem touch_far {A B U V : List Int} {R : Int} (hR : R ≠ 0) (h : ∀ x, pev U x * pev A x + pev V x * pev B x = R) (M : Nat) :
    ∃ W, ∀ w, W ≤ w → ∀ u : Int, u.natAbs ≤ M * w → tch A w u → w ^ B.length ≤ 2 * gC M V * (gh B w u).natAbs ∧ 0 < gh B w u * gh B w (u + 1) := by
  refine ⟨2 * (gC M U * gD M A) + 2 * (gD M B * gC M V) + 1, fun w hW u hu ht => ?_⟩
  have hw : 1 ≤ w := by omega
  have hw0 : (w : Int) ≠ 0 := by omega
  have e := gh_bez h hw0 u
  have hA := tch_small hu hw ht
  have bU := gh_le hu U
  have bV := gh_le hu V
  have lB := gh_lip hu hw B
  have key : w ^ B.length ≤ 2 * gC M V * (gh B w u).natAbs := by
    have e1 := congrArg Int.natAbs e
    have e2 := Int.natAbs_add_le ((w : Int) ^ (V.length + B.length) * (gh U w u * gh A w u)) ((w : Int) ^ (U.length + A.length) * (gh V w u * gh B w u))
    rw [e1] at e2
    simp only [Int.natAbs_mul, Int.natAbs_pow, Int.natAbs_natCast] at e2
    generalize (gh U w u).natAbs = gU at *
    generalize (gh A w u).natAbs = gA at *
    generalize (gh V w u).natAbs = gV at *
    generalize (gh B w u).natAbs = gB at *
    have hR1 : 1 ≤ R.natAbs := by omega
    have f1 : gU * (gA * w) ≤ (gC M U * w ^ U.length) * (gD M A * w ^ A.length) := Nat.mul_le_mul bU hA
    have f2 : gV * gB ≤ (gC M V * w ^ V.length) * gB := Nat.mul_le_mul_right _ bV
    have f3 : 1 * w ^ (U.length + A.length + (V.length + B.length)) ≤ R.natAbs * w ^ (U.length + A.length + (V.length + B.length)) := Nat.mul_le_mul_right _ hR1
    have P : 0 < w ^ (U.length + A.length + V.length) := Nat.pow_pos (by omega)
    have g : w ^ (U.length + A.length + V.length) * (w ^ B.length * w) ≤ w ^ (U.length + A.length + V.length) * (gC M U * gD M A * w ^ B.length + gC M V * gB * w) := by
      have s1 : w ^ (U.length + A.length + (V.length + B.length)) * w ≤ (w ^ (V.length + B.length) * (gU * gA) + w ^ (U.length + A.length) * (gV * gB)) * w := Nat.mul_le_mul_right _ (by omega)
      have s2 : w ^ (V.length + B.length) * (gU * (gA * w)) ≤ w ^ (V.length + B.length) * ((gC M U * w ^ U.length) * (gD M A * w ^ A.length)) := Nat.mul_le_mul_left _ f1
      have s3 : w ^ (U.length + A.length) * (gV * gB) * w ≤ w ^ (U.length + A.length) * ((gC M V * w ^ V.length) * gB) * w := Nat.mul_le_mul_right _ (Nat.mul_le_mul_left _ f2)
      have t1 : w ^ (U.length + A.length + V.length) * (w ^ B.length * w) = w ^ (U.length + A.length + (V.length + B.length)) * w := by simp only [Nat.pow_add]; grind
      have t2 : w ^ (U.length + A.length + V.length) * (gC M U * gD M A * w ^ B.length + gC M V * gB * w) = w ^ (V.length + B.length) * ((gC M U * w ^ U.length) * (gD M A * w ^ A.length)) + w ^ (U.length + A.length) * ((gC M V * w ^ V.length) * gB) * w := by simp only [Nat.pow_add]; grind
      have t3 : (w ^ (V.length + B.length) * (gU * gA) + w ^ (U.length + A.length) * (gV * gB)) * w = w ^ (V.length + B.length) * (gU * (gA * w)) + w ^ (U.length + A.length) * (gV * gB) * w := by grind
      omega
    have g2 := Nat.le_of_mul_le_mul_left g P
    have g3 : 2 * (gC M U * gD M A) * w ^ B.length ≤ w * w ^ B.length := Nat.mul_le_mul_right _ (by omega)
    have g4 : w ^ B.length * w ≤ (2 * gC M V * gB) * w := by
      have a1 : w * w ^ B.length = w ^ B.length * w := Nat.mul_comm _ _
      have a2 : 2 * (gC M U * gD M A) * w ^ B.length = 2 * (gC M U * gD M A * w ^ B.length) := Nat.mul_assoc _ _ _
      have a3 : (2 * gC M V * gB) * w = 2 * (gC M V * gB * w) := by grind
      omega
    exact Nat.le_of_mul_le_mul_right g4 (by omega)
  refine ⟨key, ?_⟩
  have hB0 : 0 < (gh B w u).natAbs := Nat.pos_of_ne_zero fun e0 => by
    rw [e0, Nat.mul_zero] at key
    have : 0 < w ^ B.length := Nat.pow_pos (by omega)
    omega
  have hlt : (gh B w (u + 1) - gh B w u).natAbs < (gh B w u).natAbs := by
    have s1 : gD M B * w ^ B.length ≤ gD M B * (2 * gC M V * (gh B w u).natAbs) := Nat.mul_le_mul_left _ key
    have s2 : gD M B * (2 * gC M V * (gh B w u).natAbs) = (2 * (gD M B * gC M V)) * (gh B w u).natAbs := by grind
    have s3 : (2 * (gD M B * gC M V) + 1) * (gh B w u).natAbs ≤ w * (gh B w u).natAbs := Nat.mul_le_mul_right _ (by omega)
    refine Nat.lt_of_mul_lt_mul_right (a := w) ?_
    have s4 : (2 * (gD M B * gC M V) + 1) * (gh B w u).natAbs = (2 * (gD M B * gC M V)) * (gh B w u).natAbs + (gh B w u).natAbs := by grind
    have s5 : w * (gh B w u).natAbs = (gh B w u).natAbs * w := Nat.mul_comm _ _
    omega
  generalize gh B w (u + 1) = y at *
  generalize gh B w u = x at *
  rcases Int.lt_trichotomy x 0 with hx | hx | hx
  · exact Int.mul_pos_of_neg_of_neg hx (by omega)
  · omega
  · exact Int.mul_pos hx (by omega)
end Go.Proofs.YtgpcepcbdpigfaaGreat
namespace Go.Proofs.YtgpcepcbdpigfaaGreat
theorem rel_opp {A B C q : List Int} {α β : Int} (hα : 0 < α) (hβ : 0 < β) (h : ∀ x, α * pev A x = pev q x * pev B x - β * pev C x) (M c : Nat) :
    ∃ W, ∀ w, W ≤ w → ∀ u : Int, u.natAbs ≤ M * w → tch B w u → w ^ C.length ≤ c * (gh C w u).natAbs → gh A w u * gh C w u < 0 := by
  refine ⟨gC M q * gD M B * c + 1, fun w hW u hu ht hc => ?_⟩
  have hw : 1 ≤ w := by omega
  have hw0 : (w : Int) ≠ 0 := by omega
  have hwp : (0 : Int) < (w : Int) := by omega
  have e := gh_rel h hw0 u
  have hB := tch_small hu hw ht
  have bq := gh_le hu q
  have hC0 : 0 < (gh C w u).natAbs := Nat.pos_of_ne_zero fun e0 => by
    rw [e0, Nat.mul_zero] at hc
    have : 0 < w ^ C.length := Nat.pow_pos (by omega)
    omega
  have hlt : w ^ (A.length + C.length) * ((gh q w u).natAbs * (gh B w u).natAbs) < w ^ (A.length + q.length + B.length) * (gh C w u).natAbs := by
    have s1 : (gh q w u).natAbs * ((gh B w u).natAbs * w) ≤ (gC M q * w ^ q.length) * (gD M B * w ^ B.length) := Nat.mul_le_mul bq hB
    have s2 : w ^ (A.length + C.length) * ((gh q w u).natAbs * ((gh B w u).natAbs * w)) ≤ w ^ (A.length + C.length) * ((gC M q * w ^ q.length) * (gD M B * w ^ B.length)) := Nat.mul_le_mul_left _ s1
    have s3 : w ^ (A.length + q.length + B.length) * (gC M q * gD M B * w ^ C.length) ≤ w ^ (A.length + q.length + B.length) * (gC M q * gD M B * (c * (gh C w u).natAbs)) := Nat.mul_le_mul_left _ (Nat.mul_le_mul_left _ hc)
    have t1 : w ^ (A.length + C.length) * ((gC M q * w ^ q.length) * (gD M B * w ^ B.length)) = w ^ (A.length + q.length + B.length) * (gC M q * gD M B * w ^ C.length) := by simp only [Nat.pow_add]; grind
    have t2 : w ^ (A.length + q.length + B.length) * (gC M q * gD M B * (c * (gh C w u).natAbs)) = (gC M q * gD M B * c) * (w ^ (A.length + q.length + B.length) * (gh C w u).natAbs) := by grind
    have hP : 0 < w ^ (A.length + q.length + B.length) * (gh C w u).natAbs := Nat.mul_pos (Nat.pow_pos (by omega)) hC0
    have s4 : (gC M q * gD M B * c + 1) * (w ^ (A.length + q.length + B.length) * (gh C w u).natAbs) ≤ w * (w ^ (A.length + q.length + B.length) * (gh C w u).natAbs) := Nat.mul_le_mul_right _ hW
    refine Nat.lt_of_mul_lt_mul_right (a := w) ?_
    have t3 : w ^ (A.length + C.length) * ((gh q w u).natAbs * (gh B w u).natAbs) * w = w ^ (A.length + C.length) * ((gh q w u).natAbs * ((gh B w u).natAbs * w)) := by grind
    have t4 : (gC M q * gD M B * c + 1) * (w ^ (A.length + q.length + B.length) * (gh C w u).natAbs) = (gC M q * gD M B * c) * (w ^ (A.length + q.length + B.length) * (gh C w u).natAbs) + w ^ (A.length + q.length + B.length) * (gh C w u).natAbs := by grind
    have t5 : w * (w ^ (A.length + q.length + B.length) * (gh C w u).natAbs) = w ^ (A.length + q.length + B.length) * (gh C w u).natAbs * w := Nat.mul_comm _ _
    omega
  have hmid : ((w : Int) ^ (A.length + C.length) * (gh q w u * gh B w u)).natAbs < ((w : Int) ^ (A.length + q.length + B.length) * (β * gh C w u)).natAbs := by
    simp only [Int.natAbs_mul, Int.natAbs_pow, Int.natAbs_natCast]
    have hb1 : 1 ≤ β.natAbs := by omega
    have : w ^ (A.length + q.length + B.length) * (1 * (gh C w u).natAbs) ≤ w ^ (A.length + q.length + B.length) * (β.natAbs * (gh C w u).natAbs) := Nat.mul_le_mul_left _ (Nat.mul_le_mul_right _ hb1)
    rw [Nat.one_mul] at this
    omega
  have hPA : (0 : Int) < (w : Int) ^ (q.length + B.length + C.length) * α := Int.mul_pos (Int.pow_pos hwp) hα
  have hPC : (0 : Int) < (w : Int) ^ (A.length + q.length + B.length) * β := Int.mul_pos (Int.pow_pos hwp) hβ
  have e' : ((w : Int) ^ (q.length + B.length + C.length) * α) * gh A w u = (w : Int) ^ (A.length + C.length) * (gh q w u * gh B w u) - ((w : Int) ^ (A.length + q.length + B.length) * β) * gh C w u := by
    rw [Int.mul_assoc, Int.mul_assoc]; exact e
  have hmid' : ((w : Int) ^ (A.length + C.length) * (gh q w u * gh B w u)).natAbs < (((w : Int) ^ (A.length + q.length + B.length) * β) * gh C w u).natAbs := by rw [Int.mul_assoc]; exact hmid
  generalize (w : Int) ^ (A.length + C.length) * (gh q w u * gh B w u) = m at *
  generalize (w : Int) ^ (q.length + B.length + C.length) * α = a at *
  generalize (w : Int) ^ (A.length + q.length + B.length) * β = b at *
  generalize gh A w u = x at *
  generalize gh C w u = z at *
  rcases Int.lt_trichotomy z 0 with hz | hz | hz
  · have h1 := Int.mul_neg_of_pos_of_neg hPC hz
    have h2 : 0 < a * x := by omega
    have hx : 0 < x := by
      rcases Int.lt_trichotomy x 0 with k | k | k
      · have := Int.mul_neg_of_pos_of_neg hPA k; omega
      · rw [k, Int.mul_zero] at h2; omega
      · exact k
    exact Int.mul_neg_of_pos_of_neg hx hz
  · omega
  · have h1 := Int.mul_pos hPC hz
    have h2 : a * x < 0 := by omega
    have hx : x < 0 := by
      rcases Int.lt_trichotomy x 0 with k | k | k
      · exact k
      · rw [k, Int.mul_zero] at h2; omega
      · have := Int.mul_pos hPA k; omega
    exact Int.mul_neg_of_neg_of_pos hx hz
theorem der_go (l : List Int) (M c : Nat) : ∃ W, ∀ w, W ≤ w → ∀ u : Int, u.natAbs ≤ M * w → w ^ (pder l).length ≤ c * (gh (pder l) w u).natAbs → 0 < (gh l w (u + 1) - gh l w u) * gh (pder l) w u := by
  refine ⟨gF M l * c + 1, fun w hW u hu hc => ?_⟩
  have hw : 1 ≤ w := by omega
  have hw0 : (w : Int) ≠ 0 := by omega
  have hwp : (0 : Int) < (w : Int) := by omega
  have e := g1_der l hw0 u
  have hE := gh_der hu hw l
  have hD0 : 0 < (gh (pder l) w u).natAbs := Nat.pos_of_ne_zero fun e0 => by
    rw [e0, Nat.mul_zero] at hc
    have : 0 < w ^ (pder l).length := Nat.pow_pos (by omega)
    omega
  have hx : (gh l w (u + 1) - gh l w u) = g1 l w u + (gh l w (u + 1) - gh l w u - g1 l w u) := by omega
  generalize gh l w (u + 1) - gh l w u - g1 l w u = E at *
  rw [hx]
  generalize hdl : gh (pder l) w u = d at *
  have hlt : w ^ (pder l).length * (w * E.natAbs) < w ^ l.length * d.natAbs := by
    have s1 : w ^ (pder l).length * (E.natAbs * (w * w)) ≤ w ^ (pder l).length * (gF M l * w ^ l.length) := Nat.mul_le_mul_left _ hE
    have s2 : w ^ (pder l).length * (gF M l * w ^ l.length) ≤ (c * d.natAbs) * (gF M l * w ^ l.length) := Nat.mul_le_mul_right _ hc
    have t1 : (c * d.natAbs) * (gF M l * w ^ l.length) = (gF M l * c) * (w ^ l.length * d.natAbs) := by grind
    have hP : 0 < w ^ l.length * d.natAbs := Nat.mul_pos (Nat.pow_pos (by omega)) hD0
    have s3 : (gF M l * c + 1) * (w ^ l.length * d.natAbs) ≤ w * (w ^ l.length * d.natAbs) := Nat.mul_le_mul_right _ hW
    refine Nat.lt_of_mul_lt_mul_right (a := w) ?_
    have t2 : w ^ (pder l).length * (w * E.natAbs) * w = w ^ (pder l).length * (E.natAbs * (w * w)) := by grind
    have t3 : (gF M l * c + 1) * (w ^ l.length * d.natAbs) = (gF M l * c) * (w ^ l.length * d.natAbs) + w ^ l.length * d.natAbs := by grind
    have t4 : w * (w ^ l.length * d.natAbs) = w ^ l.length * d.natAbs * w := Nat.mul_comm _ _
    omega
  have hmid : ((w : Int) ^ (pder l).length * (w * E)).natAbs < ((w : Int) ^ l.length * d).natAbs := by
    simp only [Int.natAbs_mul, Int.natAbs_pow, Int.natAbs_natCast]
    exact hlt
  have hPA : (0 : Int) < (w : Int) ^ (pder l).length * w := Int.mul_pos (Int.pow_pos hwp) hwp
  have hPC : (0 : Int) < (w : Int) ^ l.length := Int.pow_pos hwp
  have e2 : ((w : Int) ^ (pder l).length * w) * (g1 l w u + E) = (w : Int) ^ l.length * d + (w : Int) ^ (pder l).length * (w * E) := by
    rw [← e]; grind
  generalize (w : Int) ^ (pder l).length * (w * E) = m at *
  generalize (w : Int) ^ (pder l).length * w = a at *
  generalize (w : Int) ^ l.length = b at *
  generalize g1 l w u + E = x at *
  rcases Int.lt_trichotomy d 0 with hz | hz | hz
  · have h1 := Int.mul_neg_of_pos_of_neg hPC hz
    have h2 : a * x < 0 := by omega
    have hx : x < 0 := by
      rcases Int.lt_trichotomy x 0 with k | k | k
      · exact k
      · rw [k, Int.mul_zero] at h2; omega
      · have := Int.mul_pos hPA k; omega
    exact Int.mul_pos_of_neg_of_neg hx hz
  · omega
  · have h1 := Int.mul_pos hPC hz
    have h2 : 0 < a * x := by omega
    have hx : 0 < x := by
      rcases Int.lt_trichotomy x 0 with k | k | k
      · have := Int.mul_neg_of_pos_of_neg hPA k; omega
      · rw [k, Int.mul_zero] at h2; omega
      · exact k
    exact Int.mul_pos hx hz
def vs : Int → List Int → Nat
  | _, [] => 0
  | t, x :: l => if x = 0 then vs t l else (if x * t < 0 then 1 else 0) + vs x l
theorem vs_sign {t t' : Int} (h : 0 < t * t') (l : List Int) : vs t l = vs t' l := by
  have key : ∀ x : Int, x * t < 0 ↔ x * t' < 0 := fun x => by
    rcases Int.lt_trichotomy t 0 with ht | ht | ht
    · have ht' : t' < 0 := Int.lt_of_not_ge fun h' => by have := Int.mul_nonpos_of_nonpos_of_nonneg (Int.le_of_lt ht) h'; omega
      constructor
      · intro h1
        have : 0 < x := Int.lt_of_not_ge fun h' => by have := Int.mul_nonneg_of_nonpos_of_nonpos h' (Int.le_of_lt ht); omega
        exact Int.mul_neg_of_pos_of_neg this ht'
      · intro h1
        have : 0 < x := Int.lt_of_not_ge fun h' => by have := Int.mul_nonneg_of_nonpos_of_nonpos h' (Int.le_of_lt ht'); omega
        exact Int.mul_neg_of_pos_of_neg this ht
    · rw [ht, Int.zero_mul] at h; omega
    · have ht' : 0 < t' := Int.lt_of_not_ge fun h' => by have := Int.mul_nonpos_of_nonneg_of_nonpos (Int.le_of_lt ht) h'; omega
      constructor
      · intro h1
        have : x < 0 := Int.lt_of_not_ge fun h' => by have := Int.mul_nonneg h' (Int.le_of_lt ht); omega
        exact Int.mul_neg_of_neg_of_pos this ht'
      · intro h1
        have : x < 0 := Int.lt_of_not_ge fun h' => by have := Int.mul_nonneg h' (Int.le_of_lt ht'); omega
        exact Int.mul_neg_of_neg_of_pos this ht
  induction l with
  | nil => rfl
  | cons x l ih =>
    simp only [vs]
    by_cases h0 : x = 0
    · rw [if_pos h0, if_pos h0, ih]
    · rw [if_neg h0, if_neg h0]
      by_cases h1 : x * t < 0
      · rw [if_pos h1, if_pos ((key x).1 h1)]
      · rw [if_neg h1, if_neg fun h2 => h1 ((key x).2 h2)]
inductive Reg : Int → Int → List (Int × Int) → Prop
  | nil {x y : Int} : Reg x y []
  | go {x y x1 y1 : Int} {l : List (Int × Int)} : 0 < x1 * y1 → Reg x1 y1 l → Reg x y ((x1, y1) :: l)
  | jump {x y x1 y1 x2 y2 : Int} {l : List (Int × Int)} : x * x2 < 0 → 0 < x2 * y2 → Reg x2 y2 l → Reg x y ((x1, y1) :: (x2, y2) :: l)
theorem vs_mid {x x1 x2 : Int} (h : x * x2 < 0) (l : List Int) : vs x (x1 :: x2 :: l) = 1 + vs x2 l := by
  have hx2 : x2 ≠ 0 := fun e => by rw [e, Int.mul_zero] at h; omega
  have hx : x ≠ 0 := fun e => by rw [e, Int.zero_mul] at h; omega
  have h' : x2 * x < 0 := by rw [Int.mul_comm]; exact h
  simp only [vs]
  rw [if_neg hx2, if_neg hx2, if_pos h']
  by_cases h0 : x1 = 0
  · rw [if_pos h0]
  · rw [if_neg h0]
    rcases Int.lt_trichotomy x 0 with k | k | k
    · have k2 : 0 < x2 := Int.lt_of_not_ge fun k' => by have := Int.mul_nonneg_of_nonpos_of_nonpos (Int.le_of_lt k) k'; omega
      rcases Int.lt_trichotomy x1 0 with k1 | k1 | k1
      · rw [if_neg (by have := Int.mul_pos_of_neg_of_neg k1 k; omega), if_pos (Int.mul_neg_of_pos_of_neg k2 k1)]; omega
      · exact absurd k1 h0
      · rw [if_pos (Int.mul_neg_of_pos_of_neg k1 k), if_neg (by have := Int.mul_pos k2 k1; omega)]; omega
    · exact absurd k hx
    · have k2 : x2 < 0 := Int.lt_of_not_ge fun k' => by have := Int.mul_nonneg (Int.le_of_lt k) k'; omega
      rcases Int.lt_trichotomy x1 0 with k1 | k1 | k1
      · rw [if_pos (Int.mul_neg_of_neg_of_pos k1 k), if_neg (by have := Int.mul_pos_of_neg_of_neg k2 k1; omega)]; omega
      · exact absurd k1 h0
      · rw [if_neg (by have := Int.mul_pos k1 k; omega), if_pos (Int.mul_neg_of_neg_of_pos k2 k1)]; omega
theorem reg_vs {x y : Int} {l : List (Int × Int)} (h : Reg x y l) (hxy : 0 < x * y) : vs x (l.map (·.1)) = vs y (l.map (·.2)) := by
  induction h with
  | nil => rfl
  | @go x y x1 y1 l h1 _ ih =>
    have ih := ih h1
    have n1 : x1 ≠ 0 := fun e => by rw [e, Int.zero_mul] at h1; omega
    have n2 : y1 ≠ 0 := fun e => by rw [e, Int.mul_zero] at h1; omega
    simp only [List.map_cons, vs]
    rw [if_neg n1, if_neg n2, ih]
    congr 1
    have key : x1 * x < 0 ↔ y1 * y < 0 := by
      have e : (x1 * x) * (y1 * y) = (x1 * y1) * (x * y) := by grind
      have hp : 0 < (x1 * x) * (y1 * y) := by rw [e]; exact Int.mul_pos h1 hxy
      constructor
      · intro h; exact Int.lt_of_not_ge fun k => by have := Int.mul_nonpos_of_nonpos_of_nonneg (Int.le_of_lt h) k; omega
      · intro h; exact Int.lt_of_not_ge fun k => by have := Int.mul_nonpos_of_nonneg_of_nonpos k (Int.le_of_lt h); omega
    by_cases k : x1 * x < 0
    · rw [if_pos k, if_pos (key.1 k)]
    · rw [if_neg k, if_neg fun k' => k (key.2 k')]
  | @jump x y x1 y1 x2 y2 l h1 h2 _ ih =>
    have ih := ih h2
    have h3 : y * y2 < 0 := by
      have e : (x * x2) * (y * y2) = (x * y) * (x2 * y2) := by grind
      have hp : 0 < (x * x2) * (y * y2) := by rw [e]; exact Int.mul_pos hxy h2
      exact Int.lt_of_not_ge fun k => by have := Int.mul_nonpos_of_nonpos_of_nonneg (Int.le_of_lt h1) k; omega
    simp only [List.map_cons]
    rw [vs_mid h1, vs_mid h3, ih]
theorem reg_head {x0 y0 x1 y1 : Int} {l : List (Int × Int)} (ht : x0 * y0 ≤ 0) (h1 : 0 < x1 * y1) (hd : 0 < (y0 - x0) * x1) (h : Reg x1 y1 l) :
    vs 0 (x0 :: x1 :: l.map (·.1)) = vs 0 (y0 :: y1 :: l.map (·.2)) + if x0 = 0 then 0 else 1 := by
  have e := reg_vs h h1
  have n1 : x1 ≠ 0 := fun e => by rw [e, Int.zero_mul] at h1; omega
  have n2 : y1 ≠ 0 := fun e => by rw [e, Int.mul_zero] at h1; omega
  simp only [vs, Int.mul_zero]
  rw [if_neg n1, if_neg n2, if_neg n1, if_neg n2, e]
  have hx : x0 * x1 ≤ 0 ∧ 0 ≤ y0 * y1 := by
    rcases Int.lt_trichotomy x1 0 with k | k | k
    · have k1 : y1 < 0 := Int.lt_of_not_ge fun k' => by have := Int.mul_nonpos_of_nonpos_of_nonneg (Int.le_of_lt k) k'; omega
      have k2 : y0 < x0 := Int.lt_of_not_ge fun k' => by have := Int.mul_nonpos_of_nonneg_of_nonpos (show 0 ≤ y0 - x0 by omega) (Int.le_of_lt k); omega
      have k3 : 0 ≤ x0 := Int.le_of_not_gt fun k' => by have := Int.mul_pos_of_neg_of_neg k' (show y0 < 0 by omega); omega
      have k4 : y0 ≤ 0 := Int.le_of_not_gt fun k' => by have := Int.mul_pos (show 0 < x0 by omega) k'; omega
      exact ⟨Int.mul_nonpos_of_nonneg_of_nonpos k3 (Int.le_of_lt k), Int.mul_nonneg_of_nonpos_of_nonpos k4 (Int.le_of_lt k1)⟩
    · exact absurd k n1
    · have k1 : 0 < y1 := Int.lt_of_not_ge fun k' => by have := Int.mul_nonpos_of_nonneg_of_nonpos (Int.le_of_lt k) k'; omega
      have k2 : x0 < y0 := Int.lt_of_not_ge fun k' => by have := Int.mul_nonpos_of_nonpos_of_nonneg (show y0 - x0 ≤ 0 by omega) (Int.le_of_lt k); omega
      have k3 : x0 ≤ 0 := Int.le_of_not_gt fun k' => by have := Int.mul_pos k' (show 0 < y0 by omega); omega
      have k4 : 0 ≤ y0 := Int.le_of_not_gt fun k' => by have := Int.mul_pos_of_neg_of_neg (show x0 < 0 by omega) k'; omega
      exact ⟨Int.mul_nonpos_of_nonpos_of_nonneg k3 (Int.le_of_lt k), Int.mul_nonneg k4 (Int.le_of_lt k1)⟩
  have hy' : ¬ y1 * y0 < 0 := by rw [Int.mul_comm]; omega
  have hX : (if x0 = 0 then (if x1 * 0 < 0 then 1 else 0) + vs y1 (l.map (·.2)) else (if x0 * 0 < 0 then 1 else 0) + ((if x1 * x0 < 0 then 1 else 0) + vs y1 (l.map (·.2)))) = vs y1 (l.map (·.2)) + if x0 = 0 then 0 else 1 := by
    by_cases h0 : x0 = 0
    · simp [h0]
    · have : x1 * x0 < 0 := by
        have h2 : x1 * x0 ≠ 0 := Int.mul_ne_zero n1 h0
        rw [Int.mul_comm] at h2 ⊢; omega
      simp [h0, this]; omega
  simp only [Int.mul_zero] at hX
  rw [hX]
  congr 1
  by_cases h0 : y0 = 0
  · simp [h0]
  · simp [h0, hy']
end Go.Proofs.YtgpcepcbdpigfaaGreat
namespace Go.Proofs.YtgpcepcbdpigfaaGreat
structure Chain (L : Nat → List Int) (r : Nat) : Prop where
  one : 1 ≤ r → L 1 = pder (L 0)
  rel : ∀ i, i + 1 < r → ∃ α β q, 0 < α ∧ 0 < β ∧ ∀ x, α * pev (L i) x = pev q x * pev (L (i + 1)) x - β * pev (L (i + 2)) x
  last : ∃ k, k ≠ 0 ∧ L r = [k]
theorem Chain.bez {L : Nat → List Int} {r : Nat} (h : Chain L r) : ∀ (e i : Nat), i + e + 1 = r → ∃ U V R, R ≠ 0 ∧ ∀ x, pev U x * pev (L i) x + pev V x * pev (L (i + 1)) x = R
  | 0, i, hi => by
    obtain ⟨k, hk, e⟩ := h.last
    refine ⟨[], [1], k, hk, fun x => ?_⟩
    have : L (i + 1) = [k] := by rw [← e, ← hi]
    rw [this]; simp [pev]
  | e + 1, i, hi => by
    obtain ⟨U, V, R, hR, hb⟩ := h.bez e (i + 1) (by omega)
    obtain ⟨α, β, q, hα, hβ, hr⟩ := h.rel i (by omega)
    refine ⟨ptim (-α) V, padd (ptim β U) (pmul V q), β * R, Int.mul_ne_zero (by omega) hR, fun x => ?_⟩
    have e1 := hb x
    have e2 := hr x
    rw [ev_ptim, ev_padd, ev_ptim, ev_pmul, ← e1]
    have : pev V x * (α * pev (L i) x) = pev V x * (pev q x * pev (L (i + 1)) x - β * pev (L (i + 2)) x) := by rw [e2]
    grind
theorem all_W {P : Nat → Nat → Prop} : ∀ {r : Nat}, (∀ i, i < r → ∃ W, ∀ w, W ≤ w → P i w) → ∃ W, ∀ w, W ≤ w → ∀ i, i < r → P i w
  | 0, _ => ⟨0, fun _ _ i hi => by omega⟩
  | r + 1, h => by
    obtain ⟨W1, h1⟩ := all_W fun i (hi : i < r) => h i (by omega)
    obtain ⟨W2, h2⟩ := h r (by omega)
    refine ⟨max W1 W2, fun w hw i hi => ?_⟩
    by_cases e : i = r
    · rw [e]; exact h2 w (by omega)
    · exact h1 w (by omega) i (by omega)
def vl (L : Nat → List Int) (w : Nat) (u : Int) : Nat → Nat → List (Int × Int)
  | _, 0 => []
  | i, e + 1 => (gh (L i) w u, gh (L i) w (u + 1)) :: vl L w u (i + 1) e
def vh (L : Nat → List Int) (w : Nat) (u : Int) : Nat → Nat → List Int
  | _, 0 => []
  | i, e + 1 => gh (L i) w u :: vh L w u (i + 1) e
theorem vl_fst (L : Nat → List Int) (w : Nat) (u : Int) : ∀ (e i : Nat), (vl L w u i e).map (·.1) = vh L w u i e
  | 0, _ => rfl
  | e + 1, i => by simp only [vl, vh, List.map_cons, vl_fst L w u e (i + 1)]
theorem vl_snd (L : Nat → List Int) (w : Nat) (u : Int) : ∀ (e i : Nat), (vl L w u i e).map (·.2) = vh L w (u + 1) i e
  | 0, _ => rfl
  | e + 1, i => by simp only [vl, vh, List.map_cons, vl_snd L w u e (i + 1)]
theorem Chain.cell {L : Nat → List Int} {r : Nat} (h : Chain L r) (M : Nat) : ∃ W, ∀ w, W ≤ w → ∀ u : Int, u.natAbs ≤ M * w →
    (¬ tch (L 0) w u → vs 0 (vh L w u 0 (r + 1)) = vs 0 (vh L w (u + 1) 0 (r + 1))) ∧
    (tch (L 0) w u → vs 0 (vh L w u 0 (r + 1)) = vs 0 (vh L w (u + 1) 0 (r + 1)) + (if gh (L 0) w u = 0 then 0 else 1) ∧ gh (L 0) w u ≠ gh (L 0) w (u + 1)) := by
  have hA : ∀ i, i < r → ∃ W, ∀ w, W ≤ w → ∀ u : Int, u.natAbs ≤ M * w → tch (L i) w u →
      (0 < gh (L (i + 1)) w u * gh (L (i + 1)) w (u + 1)) ∧ (∀ j, i = j + 1 → gh (L j) w u * gh (L (i + 1)) w u < 0) ∧ (i = 0 → 0 < (gh (L 0) w (u + 1) - gh (L 0) w u) * gh (L 1) w u) := fun i hi => by
    obtain ⟨U, V, R, hR, hb⟩ := h.bez (r - i - 1) i (by omega)
    obtain ⟨W1, h1⟩ := touch_far hR hb M
    cases i with
    | zero =>
      have e1 := h.one (by omega)
      obtain ⟨W2, h2⟩ := der_go (L 0) M (2 * gC M V)
      refine ⟨max W1 W2, fun w hw u hu ht => ?_⟩
      obtain ⟨a1, a2⟩ := h1 w (by omega) u hu ht
      refine ⟨a2, fun j hj => by omega, fun _ => ?_⟩
      rw [e1]
      rw [Nat.zero_add, e1] at a1
      exact h2 w (by omega) u hu a1
    | succ j =>
      obtain ⟨α, β, q, hα, hβ, hr⟩ := h.rel j (by omega)
      obtain ⟨W2, h2⟩ := rel_opp hα hβ hr M (2 * gC M V)
      refine ⟨max W1 W2, fun w hw u hu ht => ?_⟩
      obtain ⟨a1, a2⟩ := h1 w (by omega) u hu ht
      refine ⟨a2, fun j' hj => ?_, fun h0 => by omega⟩
      obtain rfl : j = j' := by omega
      exact h2 w (by omega) u hu ht a1
  obtain ⟨W, hW⟩ := all_W (P := fun i w => ∀ u : Int, u.natAbs ≤ M * w → tch (L i) w u →
      (0 < gh (L (i + 1)) w u * gh (L (i + 1)) w (u + 1)) ∧ (∀ j, i = j + 1 → gh (L j) w u * gh (L (i + 1)) w u < 0) ∧ (i = 0 → 0 < (gh (L 0) w (u + 1) - gh (L 0) w u) * gh (L 1) w u)) hA
  refine ⟨max W 1, fun w hw u hu => ?_⟩
  have hw1 : 1 ≤ w := by omega
  have hlast : ¬ tch (L r) w u := fun ht => by
    obtain ⟨k, hk, e⟩ := h.last
    unfold tch at ht
    rw [e] at ht
    simp only [gh, List.length_nil, Int.mul_zero, Int.add_zero] at ht
    have h1 : k * (w : Int) ^ (0 + 1) ≠ 0 := Int.mul_ne_zero hk (Int.pow_ne_zero (by omega))
    have h2 := Int.mul_self_nonneg' (k * (w : Int) ^ (0 + 1))
    have h3 := Int.mul_ne_zero h1 h1
    omega
  have reg : ∀ (e i : Nat), i + e = r → ¬ tch (L i) w u → Reg (gh (L i) w u) (gh (L i) w (u + 1)) (vl L w u (i + 1) e) := fun e => by
    induction e using Nat.strongRecOn with
    | ind e ih =>
      intro i hi ht
      cases e with
      | zero => exact .nil
      | succ e =>
        by_cases ht1 : tch (L (i + 1)) w u
        · have hne : i + 1 ≠ r := fun e' => hlast (e' ▸ ht1)
          obtain ⟨e, rfl⟩ : ∃ e', e = e' + 1 := ⟨e - 1, by omega⟩
          obtain ⟨a1, a2, _⟩ := hW w (by omega) (i + 1) (by omega) u hu ht1
          exact .jump (a2 i rfl) a1 (ih e (by omega) (i + 2) (by omega) (by unfold tch; show ¬ gh (L (i + 1 + 1)) w u * gh (L (i + 1 + 1)) w (u + 1) ≤ 0; omega))
        · exact .go (by unfold tch at ht1; omega) (ih e (by omega) (i + 1) (by omega) ht1)
  constructor
  · intro ht
    have h1 := reg_vs (reg r 0 (by omega) ht) (by unfold tch at ht; omega)
    rw [vl_fst, vl_snd] at h1
    have n1 : gh (L 0) w u ≠ 0 := fun e => ht (by unfold tch; rw [e, Int.zero_mul]; exact Int.le_refl _)
    have n2 : gh (L 0) w (u + 1) ≠ 0 := fun e => ht (by unfold tch; rw [e, Int.mul_zero]; exact Int.le_refl _)
    simp only [vh, vs, Int.mul_zero]
    rw [if_neg n1, if_neg n2, h1]
  · intro ht
    have hr0 : 0 < r := Nat.pos_of_ne_zero fun e => hlast (by rw [e]; exact ht)
    obtain ⟨a1, _, a3⟩ := hW w (by omega) 0 hr0 u hu ht
    have a3 := a3 rfl
    have hne : gh (L 0) w u ≠ gh (L 0) w (u + 1) := fun e => by rw [e, Int.sub_self, Int.zero_mul] at a3; omega
    refine ⟨?_, hne⟩
    obtain ⟨r', rfl⟩ : ∃ r', r = r' + 1 := ⟨r - 1, by omega⟩
    have h1 := reg_head ht a1 a3 (reg r' 1 (by omega) (by unfold tch; simp only [Nat.zero_add] at a1; omega))
    rw [vl_fst, vl_snd] at h1
    exact h1
where
  Int.mul_self_nonneg' (x : Int) : 0 ≤ x * x := by
    rcases Int.le_total 0 x with h | h
    · exact Int.mul_nonneg h h
    · exact Int.mul_nonneg_of_nonpos_of_nonpos h h
def vx (L : Nat → List Int) (x : Int) : Nat → Nat → List Int
  | _, 0 => []
  | i, e + 1 => pev (L i) x :: vx L x (i + 1) e
def sV (L : Nat → List Int) (r : Nat) (x : Int) : Nat := vs 0 (vx L x 0 (r + 1))
theorem vs_scale (L : Nat → List Int) {w : Nat} (hw : 1 ≤ w) (x : Int) : ∀ (e i : Nat) (t t' : Int), (t = 0 ∧ t' = 0) ∨ 0 < t * t' → vs t (vh L w ((w : Int) * x) i e) = vs t' (vx L x i e)
  | 0, _, _, _, _ => rfl
  | e + 1, i, t, t', ht => by
    have hp : (0 : Int) < (w : Int) ^ (L i).length := Int.pow_pos (by omega)
    simp only [vh, vx, vs]
    rw [gh_at]
    generalize (w : Int) ^ (L i).length = a at *
    generalize pev (L i) x = y at *
    by_cases h0 : y = 0
    · rw [if_pos h0, if_pos (by rw [h0, Int.mul_zero])]
      exact vs_scale L hw x e (i + 1) t t' ht
    · have h1 : a * y ≠ 0 := Int.mul_ne_zero (by omega) h0
      rw [if_neg h0, if_neg h1]
      have hyy : 0 < a * y * y := by
        rw [Int.mul_assoc]
        rcases Int.lt_trichotomy y 0 with k | k | k
        · exact Int.mul_pos hp (Int.mul_pos_of_neg_of_neg k k)
        · exact absurd k h0
        · exact Int.mul_pos hp (Int.mul_pos k k)
      rw [vs_scale L hw x e (i + 1) (a * y) y (.inr hyy)]
      congr 1
      rcases ht with ⟨h2, h3⟩ | h2
      · rw [h2, h3, Int.mul_zero, Int.mul_zero]
      · have key : a * y * t < 0 ↔ y * t' < 0 := by
          have e1 : (a * y * t) * (y * t') = (a * y * y) * (t * t') := by grind
          have hpp : 0 < (a * y * t) * (y * t') := by rw [e1]; exact Int.mul_pos hyy h2
          constructor
          · intro h; exact Int.lt_of_not_ge fun k => by have := Int.mul_nonpos_of_nonpos_of_nonneg (Int.le_of_lt h) k; omega
          · intro h; exact Int.lt_of_not_ge fun k => by have := Int.mul_nonpos_of_nonneg_of_nonpos k (Int.le_of_lt h); omega
        by_cases k : a * y * t < 0
        · rw [if_pos k, if_pos (key.1 k)]
        · rw [if_neg k, if_neg fun k' => k (key.2 k')]
theorem sV_grid (L : Nat → List Int) (r : Nat) {w : Nat} (hw : 1 ≤ w) (x : Int) : vs 0 (vh L w ((w : Int) * x) 0 (r + 1)) = sV L r x := vs_scale L hw x (r + 1) 0 0 0 (.inl ⟨rfl, rfl⟩)
def nc (s : List Int) (w : Nat) (u : Int) : Nat → Nat
  | 0 => 0
  | e + 1 => nc s w u e + if gh s w (u + e) * gh s w (u + e + 1) ≤ 0 ∧ gh s w (u + e) ≠ 0 then 1 else 0
theorem Chain.sturm {L : Nat → List Int} {r : Nat} (h : Chain L r) (M : Nat) : ∃ W, 1 ≤ W ∧ ∀ w, W ≤ w → (∀ (a : Int) (d : Nat), a.natAbs + d ≤ M → sV L r a = sV L r (a + d) + nc (L 0) w ((w : Int) * a) (w * d)) ∧
    ∀ u : Int, u.natAbs ≤ M * w → tch (L 0) w u → gh (L 0) w u ≠ gh (L 0) w (u + 1) := by
  obtain ⟨W, hW⟩ := h.cell M
  refine ⟨max W 1, by omega, fun w hw => ⟨fun a d had => ?_, fun u hu ht => ((hW w (by omega) u hu).2 ht).2⟩⟩
  have hw1 : 1 ≤ w := by omega
  have key : ∀ e, e ≤ w * d → vs 0 (vh L w ((w : Int) * a) 0 (r + 1)) = vs 0 (vh L w ((w : Int) * a + e) 0 (r + 1)) + nc (L 0) w ((w : Int) * a) e := fun e => by
    induction e with
    | zero => intro _; simp [nc]
    | succ e ih =>
      intro he
      have ih := ih (by omega)
      have hu : ((w : Int) * a + e).natAbs ≤ M * w := by
        have h1 := Int.natAbs_add_le ((w : Int) * a) (e : Int)
        rw [Int.natAbs_mul, Int.natAbs_natCast, Int.natAbs_natCast] at h1
        have h2 : w * (a.natAbs + d) ≤ w * M := Nat.mul_le_mul_left _ had
        rw [Nat.mul_add, Nat.mul_comm w M] at h2
        omega
      obtain ⟨c1, c2⟩ := hW w (by omega) _ hu
      rw [ih, nc]
      have e1 : (w : Int) * a + ((e + 1 : Nat) : Int) = (w : Int) * a + e + 1 := by omega
      rw [e1]
      by_cases ht : tch (L 0) w ((w : Int) * a + e)
      · rw [(c2 ht).1]
        by_cases h0 : gh (L 0) w ((w : Int) * a + e) = 0
        · rw [if_pos h0, if_neg fun h' => h'.2 h0]; omega
        · rw [if_neg h0, if_pos ⟨ht, h0⟩]; omega
      · rw [c1 ht, if_neg fun h' => ht h'.1]; omega
  have h1 := key (w * d) (Nat.le_refl _)
  rw [sV_grid L r hw1] at h1
  have e2 : (w : Int) * a + ((w * d : Nat) : Int) = (w : Int) * (a + d) := by rw [Int.natCast_mul]; grind
  rw [e2, sV_grid L r hw1] at h1
  exact h1
theorem Chain.less {L : Nat → List Int} {r : Nat} (h : Chain L r) {a b : Int} (hab : a < b) : sV L r b + (if pev (L 0) b = 0 then 1 else 0) ≤ sV L r a := by
  obtain ⟨d, hd⟩ : ∃ d : Nat, b = a + d := ⟨(b - a).toNat, by omega⟩
  have hd0 : 0 < d := by omega
  obtain ⟨W, hW1, hW⟩ := h.sturm (a.natAbs + d)
  obtain ⟨s1, s2⟩ := hW W (Nat.le_refl _)
  rw [hd, s1 a d (Nat.le_refl _)]
  split
  · rename_i h0
    obtain ⟨e, he⟩ : ∃ e, W * d = e + 1 := ⟨W * d - 1, by have := Nat.mul_pos (show 0 < W by omega) hd0; omega⟩
    rw [he, nc]
    have e1 : (W : Int) * a + e + 1 = (W : Int) * (a + d) := by
      have : ((W * d : Nat) : Int) = (e : Int) + 1 := by rw [he]; rfl
      rw [Int.natCast_mul] at this
      rw [Int.mul_add]; omega
    have e2 : gh (L 0) W ((W : Int) * a + e + 1) = 0 := by rw [e1, gh_at, h0, Int.mul_zero]
    have hu : ((W : Int) * a + e).natAbs ≤ (a.natAbs + d) * W := by
      have h1 := Int.natAbs_add_le ((W : Int) * a) (e : Int)
      rw [Int.natAbs_mul, Int.natAbs_natCast, Int.natAbs_natCast] at h1
      have h2 : (a.natAbs + d) * W = W * a.natAbs + W * d := by grind
      omega
    have ht : tch (L 0) W ((W : Int) * a + e) := by unfold tch; rw [e2, Int.mul_zero]; exact Int.le_refl _
    have hne := s2 _ hu ht
    rw [e2] at hne
    rw [if_pos ⟨by rw [e2, Int.mul_zero]; exact Int.le_refl _, hne⟩]
    omega
  · omega
theorem Chain.le {L : Nat → List Int} {r : Nat} (h : Chain L r) {a b : Int} (hab : a ≤ b) : sV L r b ≤ sV L r a := by
  by_cases e : a = b
  · rw [e]; exact Nat.le_refl _
  · have := h.less (show a < b by omega); omega
theorem vs_par : ∀ (l : List Int) (t k : Int), t ≠ 0 → k ≠ 0 → vs t (l ++ [k]) % 2 = if t * k < 0 then 1 else 0
  | [], t, k, ht, hk => by
    simp only [List.nil_append, vs]
    rw [if_neg hk, Int.mul_comm k t]
    by_cases h : t * k < 0
    · simp [h]
    · simp [h]
  | x :: l, t, k, ht, hk => by
    simp only [List.cons_append, vs]
    by_cases h0 : x = 0
    · rw [if_pos h0]; exact vs_par l t k ht hk
    · rw [if_neg h0]
      have ih := vs_par l x k h0 hk
      have key : t * k < 0 ↔ (x * t < 0 ↔ ¬ x * k < 0) := by
        have n1 := Int.mul_ne_zero h0 ht
        have n2 := Int.mul_ne_zero h0 hk
        have n3 := Int.mul_ne_zero ht hk
        have hxx : 0 < x * x := by
          rcases Int.lt_trichotomy x 0 with k | k | k
          · exact Int.mul_pos_of_neg_of_neg k k
          · exact absurd k h0
          · exact Int.mul_pos k k
        have e : (x * t) * (x * k) = (x * x) * (t * k) := by grind
        constructor
        · intro h
          have h1 : (x * t) * (x * k) < 0 := by rw [e]; exact Int.mul_neg_of_pos_of_neg hxx h
          constructor
          · intro h2 h3; have := Int.mul_pos_of_neg_of_neg h2 h3; omega
          · intro h2
            have h3 : 0 < x * k := by omega
            exact Int.lt_of_not_ge fun k' => by have := Int.mul_nonneg k' (Int.le_of_lt h3); omega
        · intro h
          refine Int.lt_of_not_ge fun h' => ?_
          have h1 : 0 < (x * t) * (x * k) := by rw [e]; exact Int.mul_pos hxx (by omega)
          by_cases h2 : x * t < 0
          · have h3 := h.1 h2
            have := Int.mul_nonpos_of_nonpos_of_nonneg (Int.le_of_lt h2) (show 0 ≤ x * k by omega)
            omega
          · have h3 : x * k < 0 := Classical.byContradiction fun h3 => h2 (h.2 h3)
            have := Int.mul_nonpos_of_nonneg_of_nonpos (show 0 ≤ x * t by omega) (Int.le_of_lt h3)
            omega
      by_cases h1 : x * t < 0 <;> by_cases h2 : x * k < 0 <;> by_cases h3 : t * k < 0 <;> simp [h1, h2, h3] at key ih ⊢ <;> omega
open Go.RowKit
theorem sign_lt {x : Int} : x.sign < 0 ↔ x < 0 := by
  rcases Int.lt_trichotomy x 0 with h | h | h
  · rw [Int.sign_eq_neg_one_of_neg h]; omega
  · rw [h]; simp
  · rw [Int.sign_eq_one_of_pos h]; omega
theorem ld_nrm (l : List Int) : (nrm l).getD ((nrm l).length - 1) 0 = ld l := by rw [co_nrm]; rfl
theorem cont_nrm (l : List Int) : cont (nrm l) = cont l := cont_ext (ev_nrm l)
theorem div_s (A : List Int) (g : Int) (i y : Nat) : upd (fun y => zd (if y < i then A.getD y 0 / g else A.getD y 0)) i (zd (A.getD i 0 / g)) y = zd (if y < i + 1 then A.getD y 0 / g else A.getD y 0) :=
  upd_zd (G := fun y => if y < i then A.getD y 0 / g else A.getD y 0) (H := fun y => if y < i + 1 then A.getD y 0 / g else A.getD y 0) (by
    rw [if_pos (by omega)]) (fun y hy => by
    by_cases h2 : y < i
    · rw [if_pos h2, if_pos (by omega)]
    · rw [if_neg h2, if_neg (by omega)]) y
theorem lst_map (A : List Int) (f : Int → Int) : lst A.length (fun i => f (A.getD i 0)) = A.map f := by
  refine List.ext_getElem? fun i => ?_
  by_cases h : i < A.length
  · simp [lst, h]
  · simp [lst, h]
theorem pPrimitive_meets (v : Value) (p : Row) (k : Nat) (hp : Fit k p) (hk : k ≤ 137438953472) (lp : p.length ≤ 1073741824) :
    Meets Tryz.prog 101 [v] [(v, V p)] (fun r os fs => os = [] ∧ fs = [(r, vd (pprim (vv p)))]) := by
  have h1 := pNormO_meets v p (hp.mono (by omega)) (by omega)
  have sa := hp.szR.nrm
  have la : (nrm (vv p)).length ≤ p.length := Nat.le_trans (nrm_length_le _) (by rw [vv_len]; exact Nat.le_refl _)
  have hcn := cont_nrm (vv p)
  have hld := ld_nrm (vv p)
  have hdef : pprim (vv p) = nrm ((nrm (vv p)).map fun y => y / scont (vv p)) := rfl
  have hsc : scont (vv p) = if ld (vv p) < 0 then - (cont (vv p) : Int) else cont (vv p) := rfl
  have hne : 0 < (nrm (vv p)).length → scont (vv p) ≠ 0 := fun h e => by
    have h2 := scont_natAbs (vv p)
    rw [e] at h2
    have h3 := cont_zero.1 h2.symm
    unfold dg at h3; omega
  have hgs : sz (scont (vv p)) k := by
    unfold sz
    rw [scont_natAbs]
    have := cont_sz hp.szR
    unfold sz at this
    rwa [Int.natAbs_natCast] at this
  have hcs : sz (cont (vv p) : Nat) k := cont_sz hp.szR
  rw [hdef]
  generalize hA : nrm (vv p) = A at *
  generalize hg : scont (vv p) = g at *
  have hml : (A.map cn).length = A.length := List.length_map _
  have hcv : ∀ y, y < A.length → J ((A.map cn).getD y z0) = zd (if y < 0 then A.getD y 0 / g else A.getD y 0) := fun y hy => by rw [map_cn_get hy, if_neg (Nat.not_lt_zero _)]; rfl
  have hn : ∀ r, Meets Tryz.prog 81 [r] [(r, vd (lst A.length fun y => A.getD y 0 / g))] (fun r os fs => os = [] ∧ fs = [(r, vd (nrm (A.map fun y => y / g)))]) := fun r => by
    rw [← lst_map A fun y => y / g]
    exact pNormT r (lst A.length fun y => A.getD y 0 / g) ((szR.lst fun i _ => sz_div (sa.get i)).mono hk) (by rw [lst_len]; omega)
  refine meets_of_vc Tryz.func101 (by kernel_rfl) rfl (by kernel_rfl) (Nat.le_of_ble_eq_true rfl) ?_
  refine call_fn h1 (Seals.refl _ _) qS ?_
  rintro r _ _ ⟨hr, rfl, rfl⟩
  refine content_call 0 rfl hr sa hk fun x1 => ?_
  rw [hcn]
  refine alloc_rule (d := I false []) fun c hc => ?_
  refine store_box (d := zd (cont (vv p) : Nat)) 0 rfl hc rfl (by kernel_rfl) ?_ ?_; exact Reads.fact qM
  refine lead_call 1 rfl hr fun x2 => ?_
  rw [hld]
  refine call_fn (zSignZ x2 (ld (vv p)) k (by rw [← hld]; exact sa.get _) hk) (Seals.refl _ _) qS ?_
  rintro _ _ _ ⟨rfl, rfl, rfl⟩
  refine cmp_split _ rfl (fun hz => ?_) (fun hz => ?_)
  · rw [if_pos (sign_lt.1 hz)] at hsc
    have hneg := fun y => zNegZ y _ k hcs hk
    rw [← hsc] at hneg
    refine load_box (d := zd (cont (vv p) : Nat)) 0 rfl hc rfl (load_I _ _) fun y1 => ?_
    refine call_fn (hneg y1) (Seals.refl _ _) qS ?_
    rintro y2 _ _ ⟨rfl, rfl⟩
    refine store_box (d := zd g) 0 rfl hc rfl (by kernel_rfl) ?_ ?_; exact Reads.fact qM
    refine len_own 1 rfl hr fun _ => ?_
    refine loop_rule (X := Nat) (fun i => ([(3, r), (4, c), (17, .int .i64 ((A.map cn).length : Nat)), (18, .int .i64 (i : Nat))], [own1 c 2 1 (fun _ => zd g), own1 r 2 A.length (fun y => zd (if y < i then A.getD y 0 / g else A.getD y 0))], [])) (fun i => i ≤ A.length) (fun i => A.length - i) rfl ?_ ?_
    · exact again 0 (Nat.zero_le _) trivial qF (Seals.trans (Seals.box0 rfl) (Seals.trans (Seals.own_cong (os := [_, ownL 2 J z0 r (A.map cn)]) 1 (n' := A.length) (fun y => zd (if y < 0 then A.getD y 0 / g else A.getD y 0)) rfl (by rw [List.length_map]) fun y hy => hcv y (by rw [List.length_map] at hy; exact hy)) (Seals.sub qS)))
    · rintro i hi
      refine cmp_split _ rfl (fun hlt => ?_) (fun hlt => ?_)
      · have hin : i < A.length := by omega
        have hai := sa.get i
        have hg0 := hne (by omega)
        refine draw_ord [0, 1, 2, 3, 4, 5, 6, 7, 8, 9, 12, 13, 10, 11] (by kernel_rfl) ?_
        refine ord_split 10 13 (by kernel_rfl) (by kernel_rfl) (by kernel_rfl) ?_ ?_
        · refine ord_split 11 13 (by kernel_rfl) (by kernel_rfl) (by kernel_rfl) ?_ ?_
          ·
            refine ord_go [0, 1, 2, 3, 4, 5, 6, 7, 8, 9, 10, 11, 12, 13] (by kernel_rfl) (by kernel_rfl) ?_
            refine index_elem 1 rfl hr i rfl (by omega) ?_
            refine load_elem' (d := zd (A.getD i 0)) 1 rfl i (by omega) (by rw [if_neg (by omega)]) (load_I _ _) fun y1 => ?_
            refine load_box (d := zd g) 0 rfl hc rfl (load_I _ _) fun y2 => ?_
            refine call_fn (zDivModZ y1 y2 _ _ _ _ hai hgs (by omega) (by omega) hg0) (Seals.refl _ _) qS ?_
            rintro _ _ _ ⟨rfl, y3, y4, rfl, rfl⟩
            refine index_elem 1 rfl hr i rfl (by omega) ?_
            refine StoreK.post (store_elem (d := zd (A.getD i 0 / g)) 1 rfl i (by omega) rfl (by kernel_rfl) (Reads.fact qM) ⟨_, _, Seals.own_cong (os := [_, _]) 1 (fun y => zd (if y < i + 1 then A.getD y 0 / g else A.getD y 0)) rfl rfl (fun y _ => div_s A g i y), ?_⟩)
            refine ar rfl qI ?_
            exact again (i + 1) (by omega) (by simp only; omega) qF (Seals.trans (Seals.box0 rfl) (Seals.sub qS))
          ·
            refine ord_go [0, 1, 2, 3, 4, 5, 6, 7, 8, 9, 10, 12, 13, 11] (by kernel_rfl) (by kernel_rfl) ?_
            refine index_elem 1 rfl hr i rfl (by omega) ?_
            refine load_elem' (d := zd (A.getD i 0)) 1 rfl i (by omega) (by rw [if_neg (by omega)]) (load_I _ _) fun y1 => ?_
            refine load_box (d := zd g) 0 rfl hc rfl (load_I _ _) fun y2 => ?_
            refine call_fn (zDivModZ y1 y2 _ _ _ _ hai hgs (by omega) (by omega) hg0) (Seals.refl _ _) qS ?_
            rintro _ _ _ ⟨rfl, y3, y4, rfl, rfl⟩
            refine index_elem 1 rfl hr i rfl (by omega) ?_
            refine StoreK.post (store_elem (d := zd (A.getD i 0 / g)) 1 rfl i (by omega) rfl (by kernel_rfl) (Reads.fact qM) ⟨_, _, Seals.own_cong (os := [_, _]) 1 (fun y => zd (if y < i + 1 then A.getD y 0 / g else A.getD y 0)) rfl rfl (fun y _ => div_s A g i y), ?_⟩)
            refine ar rfl qI ?_
            exact again (i + 1) (by omega) (by simp only; omega) qF (Seals.trans (Seals.box0 rfl) (Seals.sub qS))
        · refine ord_split 11 13 (by kernel_rfl) (by kernel_rfl) (by kernel_rfl) ?_ ?_
          ·
            refine ord_go [0, 1, 2, 3, 4, 5, 6, 7, 8, 9, 11, 12, 13, 10] (by kernel_rfl) (by kernel_rfl) ?_
            refine index_elem 1 rfl hr i rfl (by omega) ?_
            refine load_elem' (d := zd (A.getD i 0)) 1 rfl i (by omega) (by rw [if_neg (by omega)]) (load_I _ _) fun y1 => ?_
            refine load_box (d := zd g) 0 rfl hc rfl (load_I _ _) fun y2 => ?_
            refine call_fn (zDivModZ y1 y2 _ _ _ _ hai hgs (by omega) (by omega) hg0) (Seals.refl _ _) qS ?_
            rintro _ _ _ ⟨rfl, y3, y4, rfl, rfl⟩
            refine index_elem 1 rfl hr i rfl (by omega) ?_
            refine StoreK.post (store_elem (d := zd (A.getD i 0 / g)) 1 rfl i (by omega) rfl (by kernel_rfl) (Reads.fact qM) ⟨_, _, Seals.own_cong (os := [_, _]) 1 (fun y => zd (if y < i + 1 then A.getD y 0 / g else A.getD y 0)) rfl rfl (fun y _ => div_s A g i y), ?_⟩)
            refine ar rfl qI ?_
            exact again (i + 1) (by omega) (by simp only; omega) qF (Seals.trans (Seals.box0 rfl) (Seals.sub qS))
          ·
            refine ord_go [0, 1, 2, 3, 4, 5, 6, 7, 8, 9, 12, 13, 10, 11] (by kernel_rfl) (by kernel_rfl) ?_
            refine index_elem 1 rfl hr i rfl (by omega) ?_
            refine load_elem' (d := zd (A.getD i 0)) 1 rfl i (by omega) (by rw [if_neg (by omega)]) (load_I _ _) fun y1 => ?_
            refine load_box (d := zd g) 0 rfl hc rfl (load_I _ _) fun y2 => ?_
            refine call_fn (zDivModZ y1 y2 _ _ _ _ hai hgs (by omega) (by omega) hg0) (Seals.refl _ _) qS ?_
            rintro _ _ _ ⟨rfl, y3, y4, rfl, rfl⟩
            refine index_elem 1 rfl hr i rfl (by omega) ?_
            refine StoreK.post (store_elem (d := zd (A.getD i 0 / g)) 1 rfl i (by omega) rfl (by kernel_rfl) (Reads.fact qM) ⟨_, _, Seals.own_cong (os := [_, _]) 1 (fun y => zd (if y < i + 1 then A.getD y 0 / g else A.getD y 0)) rfl rfl (fun y _ => div_s A g i y), ?_⟩)
            refine ar rfl qI ?_
            exact again (i + 1) (by omega) (by simp only; omega) qF (Seals.trans (Seals.box0 rfl) (Seals.sub qS))
      · have hip : i = A.length := by omega
        subst hip
        refine call_fn (hn r) (Seals.trans (Seals.drop 0 _ _) (Seals.told (g := fun y => A.getD y 0 / g) hr fun y hy => by rw [if_pos hy])) qS ?_
        rintro u _ _ ⟨rfl, rfl⟩
        exact fin ⟨rfl, rfl⟩ (Seals.sub qS)
  · rw [if_neg fun h => hz (sign_lt.2 h)] at hsc
    rw [← hsc]
    refine len_own 1 rfl hr fun _ => ?_
    refine loop_rule (X := Nat) (fun i => ([(3, r), (4, c), (17, .int .i64 ((A.map cn).length : Nat)), (18, .int .i64 (i : Nat))], [own1 c 2 1 (fun _ => zd g), own1 r 2 A.length (fun y => zd (if y < i then A.getD y 0 / g else A.getD y 0))], [])) (fun i => i ≤ A.length) (fun i => A.length - i) rfl ?_ ?_
    · exact again 0 (Nat.zero_le _) trivial qF (Seals.trans (Seals.box0 rfl) (Seals.trans (Seals.own_cong (os := [_, ownL 2 J z0 r (A.map cn)]) 1 (n' := A.length) (fun y => zd (if y < 0 then A.getD y 0 / g else A.getD y 0)) rfl (by rw [List.length_map]) fun y hy => hcv y (by rw [List.length_map] at hy; exact hy)) (Seals.sub qS)))
    · rintro i hi
      refine cmp_split _ rfl (fun hlt => ?_) (fun hlt => ?_)
      · have hin : i < A.length := by omega
        have hai := sa.get i
        have hg0 := hne (by omega)
        refine draw_ord [0, 1, 2, 3, 4, 5, 6, 7, 8, 9, 12, 13, 10, 11] (by kernel_rfl) ?_
        refine ord_split 10 13 (by kernel_rfl) (by kernel_rfl) (by kernel_rfl) ?_ ?_
        · refine ord_split 11 13 (by kernel_rfl) (by kernel_rfl) (by kernel_rfl) ?_ ?_
          ·
            refine ord_go [0, 1, 2, 3, 4, 5, 6, 7, 8, 9, 10, 11, 12, 13] (by kernel_rfl) (by kernel_rfl) ?_
            refine index_elem 1 rfl hr i rfl (by omega) ?_
            refine load_elem' (d := zd (A.getD i 0)) 1 rfl i (by omega) (by rw [if_neg (by omega)]) (load_I _ _) fun y1 => ?_
            refine load_box (d := zd g) 0 rfl hc rfl (load_I _ _) fun y2 => ?_
            refine call_fn (zDivModZ y1 y2 _ _ _ _ hai hgs (by omega) (by omega) hg0) (Seals.refl _ _) qS ?_
            rintro _ _ _ ⟨rfl, y3, y4, rfl, rfl⟩
            refine index_elem 1 rfl hr i rfl (by omega) ?_
            refine StoreK.post (store_elem (d := zd (A.getD i 0 / g)) 1 rfl i (by omega) rfl (by kernel_rfl) (Reads.fact qM) ⟨_, _, Seals.own_cong (os := [_, _]) 1 (fun y => zd (if y < i + 1 then A.getD y 0 / g else A.getD y 0)) rfl rfl (fun y _ => div_s A g i y), ?_⟩)
            refine ar rfl qI ?_
            exact again (i + 1) (by omega) (by simp only; omega) qF (Seals.trans (Seals.box0 rfl) (Seals.sub qS))
          ·
            refine ord_go [0, 1, 2, 3, 4, 5, 6, 7, 8, 9, 10, 12, 13, 11] (by kernel_rfl) (by kernel_rfl) ?_
            refine index_elem 1 rfl hr i rfl (by omega) ?_
            refine load_elem' (d := zd (A.getD i 0)) 1 rfl i (by omega) (by rw [if_neg (by omega)]) (load_I _ _) fun y1 => ?_
            refine load_box (d := zd g) 0 rfl hc rfl (load_I _ _) fun y2 => ?_
            refine call_fn (zDivModZ y1 y2 _ _ _ _ hai hgs (by omega) (by omega) hg0) (Seals.refl _ _) qS ?_
            rintro _ _ _ ⟨rfl, y3, y4, rfl, rfl⟩
            refine index_elem 1 rfl hr i rfl (by omega) ?_
            refine StoreK.post (store_elem (d := zd (A.getD i 0 / g)) 1 rfl i (by omega) rfl (by kernel_rfl) (Reads.fact qM) ⟨_, _, Seals.own_cong (os := [_, _]) 1 (fun y => zd (if y < i + 1 then A.getD y 0 / g else A.getD y 0)) rfl rfl (fun y _ => div_s A g i y), ?_⟩)
            refine ar rfl qI ?_
            exact again (i + 1) (by omega) (by simp only; omega) qF (Seals.trans (Seals.box0 rfl) (Seals.sub qS))
        · refine ord_split 11 13 (by kernel_rfl) (by kernel_rfl) (by kernel_rfl) ?_ ?_
          ·
            refine ord_go [0, 1, 2, 3, 4, 5, 6, 7, 8, 9, 11, 12, 13, 10] (by kernel_rfl) (by kernel_rfl) ?_
            refine index_elem 1 rfl hr i rfl (by omega) ?_
            refine load_elem' (d := zd (A.getD i 0)) 1 rfl i (by omega) (by rw [if_neg (by omega)]) (load_I _ _) fun y1 => ?_
            refine load_box (d := zd g) 0 rfl hc rfl (load_I _ _) fun y2 => ?_
            refine call_fn (zDivModZ y1 y2 _ _ _ _ hai hgs (by omega) (by omega) hg0) (Seals.refl _ _) qS ?_
            rintro _ _ _ ⟨rfl, y3, y4, rfl, rfl⟩
            refine index_elem 1 rfl hr i rfl (by omega) ?_
            refine StoreK.post (store_elem (d := zd (A.getD i 0 / g)) 1 rfl i (by omega) rfl (by kernel_rfl) (Reads.fact qM) ⟨_, _, Seals.own_cong (os := [_, _]) 1 (fun y => zd (if y < i + 1 then A.getD y 0 / g else A.getD y 0)) rfl rfl (fun y _ => div_s A g i y), ?_⟩)
            refine ar rfl qI ?_
            exact again (i + 1) (by omega) (by simp only; omega) qF (Seals.trans (Seals.box0 rfl) (Seals.sub qS))
          ·
            refine ord_go [0, 1, 2, 3, 4, 5, 6, 7, 8, 9, 12, 13, 10, 11] (by kernel_rfl) (by kernel_rfl) ?_
            refine index_elem 1 rfl hr i rfl (by omega) ?_
            refine load_elem' (d := zd (A.getD i 0)) 1 rfl i (by omega) (by rw [if_neg (by omega)]) (load_I _ _) fun y1 => ?_
            refine load_box (d := zd g) 0 rfl hc rfl (load_I _ _) fun y2 => ?_
            refine call_fn (zDivModZ y1 y2 _ _ _ _ hai hgs (by omega) (by omega) hg0) (Seals.refl _ _) qS ?_
            rintro _ _ _ ⟨rfl, y3, y4, rfl, rfl⟩
            refine index_elem 1 rfl hr i rfl (by omega) ?_
            refine StoreK.post (store_elem (d := zd (A.getD i 0 / g)) 1 rfl i (by omega) rfl (by kernel_rfl) (Reads.fact qM) ⟨_, _, Seals.own_cong (os := [_, _]) 1 (fun y => zd (if y < i + 1 then A.getD y 0 / g else A.getD y 0)) rfl rfl (fun y _ => div_s A g i y), ?_⟩)
            refine ar rfl qI ?_
            exact again (i + 1) (by omega) (by simp only; omega) qF (Seals.trans (Seals.box0 rfl) (Seals.sub qS))
      · have hip : i = A.length := by omega
        subst hip
        refine call_fn (hn r) (Seals.trans (Seals.drop 0 _ _) (Seals.told (g := fun y => A.getD y 0 / g) hr fun y hy => by rw [if_pos hy])) qS ?_
        rintro u _ _ ⟨rfl, rfl⟩
        exact fin ⟨rfl, rfl⟩ (Seals.sub qS)
theorem pPrimitiveT (v : Value) (p : List Int) (k : Nat) (hp : szR k p) (hk : k ≤ 137438953472) (lp : p.length ≤ 1073741824) :
    Meets Tryz.prog 101 [v] [(v, vd p)] (fun r os fs => os = [] ∧ fs = [(r, vd (pprim p))]) := by
  have h := pPrimitive_meets v (p.map cn) k hp.fit hk (by rw [List.length_map]; exact lp)
  rw [vv_cn] at h
  exact h
open Go.RowKit
theorem ld_nm {l : List Int} (h : Nm l) : ld l = l.getD (l.length - 1) 0 := by unfold ld; rw [dg_nm h]
theorem pLeadN (v : Value) (l : List Int) (hl : Nm l) (h0 : 0 < l.length) :
    Meets Tryz.prog 104 [v] [(v, vd l)] (fun r os fs => os = [] ∧ fs = [(r, zd (ld l))]) := by
  rw [ld_nm hl]
  exact pLeadT v l (List.length_pos_iff.1 h0)
structure RestSpec (p q t r : List Int) : Prop where
  tn : Nm t
  rn : Nm r
  low : dg r < dg q
  eq : ∀ x, ld q ^ (dg p + 1 - dg q) * pev p x = pev q x * pev t x + pev r x
theorem RestSpec.unique {p q t r t' r' : List Int} (h : RestSpec p q t r) (h' : RestSpec p q t' r') : t = t' ∧ r = r' := by
  have := rest_unique h.low h'.low fun x => by rw [← h.eq, ← h'.eq]
  exact ⟨h.tn.ext h'.tn this.1, h.rn.ext h'.rn this.2⟩
def rT (D T R : List Int) : List Int := padd (prai (ld D) 0 T) (prai (ld R) (R.length - D.length) [1])
def rR (D R : List Int) : List Int := psub (prai (ld D) 0 R) (prai (ld R) (R.length - D.length) D)
theorem rest_step {D T R P : List Int} {j : Nat} (hD : Nm D) (hR : Nm R) (h0 : 0 < D.length) (hl : D.length ≤ R.length) (e : ∀ x, ld D ^ j * pev P x = pev D x * pev T x + pev R x) :
    (∀ x, ld D ^ (j + 1) * pev P x = pev D x * pev (rT D T R) x + pev (rR D R) x) ∧ (rR D R).length < R.length := by
  constructor
  · intro x
    have h := e x
    rw [rT, rR, ev_padd, ev_psub, ev_prai, ev_prai, ev_prai, ev_prai, Int.pow_succ]
    simp only [pev, Int.pow_zero] at h ⊢
    grind
  · have := red_dg (p := R) (q := D) (by rw [dg_nm hD]; exact h0) (by rw [dg_nm hD, dg_nm hR]; exact hl)
    rw [dg_nm hD, dg_nm hR, dg_nm (psub_nm _ _)] at this
    exact this
theorem rest_more {D T R P : List Int} {j : Nat} (e : ∀ x, ld D ^ j * pev P x = pev D x * pev T x + pev R x) :
    ∀ x, ld D ^ (j + 1) * pev P x = pev D x * pev (prai (ld D) 0 T) x + pev (prai (ld D) 0 R) x := fun x => by
  have h := e x
  rw [ev_prai, ev_prai, Int.pow_succ]
  simp only [Int.pow_zero] at h ⊢
  grind
theorem rT_len {D T R : List Int} {n : Nat} (h0 : 0 < D.length) (hl : D.length ≤ R.length) (hT : T.length ≤ n) (hR : R.length ≤ n) : (rT D T R).length ≤ n := by
  have h1 := padd_len (prai (ld D) 0 T) (prai (ld R) (R.length - D.length) [1])
  have h2 := prai_len (ld D) 0 T
  have h3 := prai_len (ld R) (R.length - D.length) [1]
  simp only [List.length_cons, List.length_nil] at h3
  unfold rT
  omega
theorem rT_sz {D T R : List Int} {e k : Nat} (hD : szR k D) (hT : szR e T) (hR : szR e R) (hk : 1 ≤ k) : szR (e + k + 1) (rT D T R) := by
  have h1 : szR (e + k) (prai (ld R) (R.length - D.length) [1]) := by
    have : szR k [1] := fun x hx => by
      rw [List.mem_singleton.1 hx]; exact (sz_one 1 (by decide)).mono hk
    have := this.prai (hR.get (dg R - 1)) (R.length - D.length)
    rwa [Nat.add_comm] at this
  exact (hT.prai (hD.get (dg D - 1)) 0).padd h1
theorem rR_sz {D R : List Int} {e k : Nat} (hD : szR k D) (hR : szR e R) : szR (e + k + 1) (rR D R) := by
  have h1 : szR (e + k) (prai (ld R) (R.length - D.length) D) := by
    have := hD.prai (hR.get (dg R - 1)) (R.length - D.length)
    rwa [Nat.add_comm] at this
  exact (hR.prai (hD.get (dg D - 1)) 0).psub h1
theorem szR_one (k : Nat) (hk : 1 ≤ k) : szR k [1] := fun x hx => by
  rw [List.mem_singleton.1 hx]; exact (sz_one 1 (by decide)).mono hk
def re (k j : Nat) : Nat := k + j * (k + 1)
theorem re_succ (k j : Nat) : re k (j + 1) = re k j + k + 1 := by unfold re; rw [Nat.succ_mul]; omega
theorem re_mono {k j m : Nat} (h : j ≤ m) : re k j ≤ re k m := by
  unfold re
  have := Nat.mul_le_mul_right (k + 1) h
  omega
theorem re_ge (k j : Nat) : k ≤ re k j := by unfold re; omega
theorem lead_callN {K : Cont} {os : List Own} {fs : List Fact} (pos : Nat) {v : Value} {l : List Int} (h : nthOwn os pos = some (ownL 2 J z0 v (l.map cn))) (hs : isSl v) (hn : Nm l)
    (kk : ∀ r, K r os ((r, zd (ld l)) :: fs)) : CallK Tryz.prog false (.func (.func 104) #[] #[]) [v] os fs K :=
  lead_call pos h hs fun r => by rw [← ld_nm hn]; exact kk r
theorem pRestO_meets (v w : Value) (p q : Row) (k : Nat) (hp : Fit k p) (hq : Fit k q) (h1k : 1 ≤ k) (hk : re k (p.length + 1) ≤ 137438953472) (lp : p.length ≤ 536870912) (lq : q.length ≤ 536870912) :
    Meets Tryz.prog 68 [v, w] [(v, V p), (w, V q)] (fun r os fs => ∃ a b T R, isSl b ∧ os = [ownL 2 J z0 b (R.map cn)] ∧ (if dg (vv q) = 0 then r = .tuple #[a, b, .int .i64 2] ∧ T = [] ∧ R = [] else r = .tuple #[a, b, .int .i64 0] ∧ RestSpec (vv p) (vv q) T R ∧ szR (re k (dg (vv p) + 1 - dg (vv q))) T ∧ szR (re k (dg (vv p) + 1 - dg (vv q))) R ∧ T.length ≤ p.length ∧ R.length ≤ p.length) ∧
      fs = [(a, vd T)]) := by
  have hkk : k ≤ re k (p.length + 1) := re_ge _ _
  have n1 := pNormO_meets v p (hp.mono (by omega)) (by omega)
  have n2 := pNorm_meets w q (hq.mono (by omega)) (by omega)
  have sP := hp.szR.nrm
  have sD := hq.szR.nrm
  have la : (nrm (vv p)).length ≤ p.length := Nat.le_trans (nrm_length_le _) (by rw [vv_len]; exact Nat.le_refl _)
  have lb : (nrm (vv q)).length ≤ q.length := Nat.le_trans (nrm_length_le _) (by rw [vv_len]; exact Nat.le_refl _)
  have hPn : Nm (nrm (vv p)) := nrm_nrm _
  have hDn : Nm (nrm (vv q)) := nrm_nrm _
  have hspec : ∀ T R, Nm T → Nm R → R.length < (nrm (vv q)).length → (∀ x, ld (nrm (vv q)) ^ ((nrm (vv p)).length + 1 - (nrm (vv q)).length) * pev (nrm (vv p)) x = pev (nrm (vv q)) x * pev T x + pev R x) → RestSpec (vv p) (vv q) T R := fun T R h1 h2 h3 h4 =>
    ⟨h1, h2, by rw [dg_nm h2]; exact h3, fun x => by
      have := h4 x
      rw [ev_nrm, ev_nrm, ld_ext (ev_nrm (vv q))] at this
      exact this⟩
  have hdq : dg (vv q) = (nrm (vv q)).length := rfl
  have hdp : dg (vv p) = (nrm (vv p)).length := rfl
  rw [hdq, hdp]
  generalize hA : nrm (vv p) = A at *
  generalize hB : nrm (vv q) = D at *
  refine meets_of_vc Tryz.func68 (by kernel_rfl) rfl (by kernel_rfl) (Nat.le_of_ble_eq_true rfl) ?_
  refine call_fn n1 (Seals.refl _ _) qS ?_
  rintro x1 _ _ ⟨hx1, rfl, rfl⟩
  refine call_fn n2 (Seals.refl _ _) qS ?_
  rintro x2 _ _ ⟨rfl, rfl⟩
  refine len_vd qM ?_
  refine cmp_split _ rfl (fun hz => ?_) (fun hz => ?_)
  · refine fin ⟨.slice none 0 0, .slice none 0 0, [], [], isSl_nil, rfl, ?_, rfl⟩ (Seals.trans (Seals.drop 0 _ _) (Seals.trans (Seals.own_nil _ _ 2 _) (Seals.cons (Knw.nil 2 _) (Seals.nil _ _))))
    rw [if_pos (by omega)]
    exact ⟨rfl, rfl, rfl⟩
  have hD0 : 0 < D.length := by omega
  have hml : ∀ l : List Int, (l.map cn).length = l.length := fun l => List.length_map _
  have hmA := hml A
  refine len_own 0 rfl hx1 fun _ => ?_
  refine len_vd qM ?_
  refine ar rfl qI ?_
  refine ar rfl qI ?_
  refine max2_rule ?_
  have hld : sz (ld D) k := sD.get _
  refine loop_rule (X := Value × Value × List Int × List Int × Nat) (fun x => ([(7, x.2.1), (8, x2), (9, .int .i64 (x.2.2.2.2 : Nat)), (10, x.1)], [ownL 2 J z0 x.2.1 (x.2.2.2.1.map cn)], [(x2, vd D), (x.1, vd x.2.2.1)]))
    (fun x => isSl x.2.1 ∧ Nm x.2.2.1 ∧ Nm x.2.2.2.1 ∧ x.2.2.2.2 ≤ A.length + 1 - D.length ∧ x.2.2.2.1.length < D.length + x.2.2.2.2 ∧ x.2.2.1.length ≤ p.length ∧ x.2.2.2.1.length ≤ p.length ∧ szR (re k (A.length + 1 - D.length - x.2.2.2.2)) x.2.2.1 ∧ szR (re k (A.length + 1 - D.length - x.2.2.2.2)) x.2.2.2.1 ∧
      ∀ y, ld D ^ (A.length + 1 - D.length - x.2.2.2.2) * pev A y = pev D y * pev x.2.2.1 y + pev x.2.2.2.1 y) (fun x => x.2.2.2.2) rfl ?_ ?_
  · refine again (.slice none 0 0, x1, [], A, A.length + 1 - D.length) ⟨hx1, rfl, hPn, Nat.le_refl _, by simp only; omega, Nat.zero_le _, la, fun x hx => by simp at hx, sP.mono (re_ge _ _), fun y => by simp only [Nat.sub_self, Int.pow_zero, pev]; omega⟩ trivial qF ?_
    exact Seals.trans (Seals.sub (fs' := [(x2, vd D)]) qS) (Seals.trans (Seals.cons (Knw.nil 2 _) (Seals.sub (fs' := [(x2, vd D)]) qS)) (Seals.sub qS))
  · rintro ⟨vt, vr, T, R, n⟩ ⟨hvr, g1, g2, g3, g4, g5, g6, g7, g8, g9⟩
    simp only at hvr g1 g2 g3 g4 g5 g6 g7 g8 g9 ⊢
    have hmR := hml R
    refine len_own 0 rfl hvr fun _ => ?_
    refine len_vd qM ?_
    refine cmp_split _ rfl (fun hge => ?_) (fun hge => ?_)
    · have hge' : D.length ≤ R.length := by omega
      have hn1 : A.length + 1 - D.length - (n - 1) = A.length + 1 - D.length - n + 1 := by omega
      obtain ⟨s1, s2⟩ := rest_step hDn g2 hD0 hge' g9
      have hre : re k (A.length + 1 - D.length - n) + k + 1 ≤ re k (p.length + 1) := by
        rw [← re_succ]; exact re_mono (by omega)
      have z1 := rT_sz sD g7 g8 h1k
      have z2 := rR_sz sD g8
      rw [← re_succ, ← hn1] at z1 z2
      have hlR : sz (ld R) (re k (A.length + 1 - D.length - n)) := g8.get _
      have c1 := fun u u' => pRaisedT u u' T (ld D) 0 _ k g7 hld (by omega) (by omega) (by omega)
      have c2 := fun u u' => pRaisedT u u' [1] (ld R) (R.length - D.length) k _ (szR_one k h1k) hlR (by omega) (by show 1 ≤ _; omega) (by omega)
      have c3 := fun u => pSumT u (prai (ld D) 0 T) (prai (ld R) (R.length - D.length) [1]) (re k (A.length + 1 - D.length - n) + k) (g7.prai hld 0) (by
        have := (szR_one k h1k).prai hlR (R.length - D.length)
        rwa [Nat.add_comm] at this) (by omega) (by have := prai_len (ld D) 0 T; omega) (by have := prai_len (ld R) (R.length - D.length) [1]; simp only [List.length_cons, List.length_nil] at this; omega)
      have c4 := fun u u' => pRaisedT u u' R (ld D) 0 _ k g8 hld (by omega) (by omega) (by omega)
      have c5 := fun u u' => pRaisedT u u' D (ld R) (R.length - D.length) k _ sD hlR (by omega) (by omega) (by omega)
      have c6 := fun u u' => pSubOT u u' (prai (ld D) 0 R) (prai (ld R) (R.length - D.length) D) (re k (A.length + 1 - D.length - n) + k) (g8.prai hld 0) (by
        have := sD.prai hlR (R.length - D.length)
        rwa [Nat.add_comm] at this) (by omega) (by have := prai_len (ld D) 0 R; omega) (by have := prai_len (ld R) (R.length - D.length) D; omega)
      have lT := rT_len hD0 hge' g5 g6
      have e1 : padd (prai (ld D) 0 T) (prai (ld R) (R.length - D.length) [1]) = rT D T R := rfl
      have e2 : psub (prai (ld D) 0 R) (prai (ld R) (R.length - D.length) D) = rR D R := rfl
      have tn : Nm (rT D T R) := padd_nm _ _
      have rn : Nm (rR D R) := psub_nm _ _
      rw [e1] at c3
      rw [e2] at c6
      refine lead_callN 0 rfl hvr g2 fun y1 => ?_
      refine len_own 0 rfl hvr fun _ => ?_
      refine len_vd qM ?_
      refine ar rfl qI ?_
      refine alloc_rule (d := I false []) fun c hc => ?_
      refine store_box (d := zd (ld R)) 0 rfl hc rfl (by kernel_rfl) ?_ ?_; exact Reads.fact qM
      refine draw_rule [0, 1, 6, 7, 2, 3, 4, 5, 8, 9, 10, 11] [0, 1, 2, 3, 4, 5, 6, 7, 8, 9, 10, 11] (by kernel_rfl) (by kernel_rfl) ?_
      refine load_box (d := zd (ld R)) 0 rfl hc rfl (load_I _ _) fun y2 => ?_
      refine call_fn (pLeadN x2 D hDn hD0) (Seals.refl _ _) qS ?_
      rintro y3 _ _ ⟨rfl, rfl⟩
      refine call_fn (c1 vt y3) (Seals.refl _ _) qS ?_
      rintro y4 _ _ ⟨rfl, rfl⟩
      refine call_fn (zof_meets 1 (by decide) (by decide)) (Seals.refl _ _) qS ?_
      rintro y5 _ _ ⟨rfl, rfl⟩
      refine lit_L (size := 2) (f := J) (z := z0) (e := 26) (cn 1) (by decide) (Reads.fact qM) rfl fun y6 => ?_
      have c2' := c2 y6 y2
      rw [show ((R.length - D.length : Nat) : Int) = ((R.map cn).length : Int) - (D.length : Int) by omega] at c2'
      refine call_fn c2' (Seals.refl _ _) qS ?_
      rintro y7 _ _ ⟨rfl, rfl⟩
      refine lit2_L (size := 1) (f := V) (z := []) (e := 23) ((prai (ld D) 0 T).map cn) ((prai (ld R) (R.length - D.length) [1]).map cn) (by decide) (Reads.fact qM) (Reads.fact qM) rfl rfl fun y8 => ?_
      refine call_fn (c3 y8) (Seals.refl _ _) qS ?_
      rintro y9 _ _ ⟨rfl, rfl⟩
      refine draw_rule [0, 1, 4, 5, 6, 2, 3, 7, 8, 9] [0, 1, 2, 3, 4, 5, 6, 7, 8, 9] (by kernel_rfl) (by kernel_rfl) ?_
      refine load_box (d := zd (ld R)) 0 rfl hc rfl (load_I _ _) fun y10 => ?_
      refine call_fn (pLeadN x2 D hDn hD0) (Seals.refl _ _) qS ?_
      rintro y11 _ _ ⟨rfl, rfl⟩
      refine call_fn (c4 vr y11) (Seals.L 1 rfl hvr) qS ?_
      rintro y12 _ _ ⟨rfl, rfl⟩
      have c5' := c5 x2 y10
      rw [show ((R.length - D.length : Nat) : Int) = ((R.map cn).length : Int) - (D.length : Int) by omega] at c5'
      refine call_fn c5' (Seals.refl _ _) qS ?_
      rintro y13 _ _ ⟨rfl, rfl⟩
      refine call_fn (c6 y12 y13) (Seals.refl _ _) qS ?_
      rintro y14 _ _ ⟨hy14, rfl, rfl⟩
      refine ar rfl qI ?_
      refine again (y9, y14, rT D T R, rR D R, n - 1) ⟨hy14, tn, rn, by simp only; omega, by simp only; omega, lT, by simp only; omega, z1, z2, fun y => by simp only; rw [hn1]; exact s1 y⟩ (by simp only; omega) qF ?_
      exact Seals.trans (Seals.drop 1 _ _) (Seals.sub qS)
    · have hlt : R.length < D.length := by omega
      refine loop_rule (X := Value × Value × List Int × List Int × Nat) (fun x => ([(7, x.2.1), (8, x2), (10, x.1), (61, .int .i64 (n : Nat)), (62, .int .i64 (x.2.2.2.2 : Nat))], [ownL 2 J z0 x.2.1 (x.2.2.2.1.map cn)], [(x2, vd D), (x.1, vd x.2.2.1)]))
        (fun x => isSl x.2.1 ∧ Nm x.2.2.1 ∧ Nm x.2.2.2.1 ∧ x.2.2.2.2 ≤ n ∧ x.2.2.2.1.length < D.length ∧ x.2.2.1.length ≤ p.length ∧ x.2.2.2.1.length ≤ p.length ∧ szR (re k (A.length + 1 - D.length - n + x.2.2.2.2)) x.2.2.1 ∧ szR (re k (A.length + 1 - D.length - n + x.2.2.2.2)) x.2.2.2.1 ∧
          ∀ y, ld D ^ (A.length + 1 - D.length - n + x.2.2.2.2) * pev A y = pev D y * pev x.2.2.1 y + pev x.2.2.2.1 y) (fun x => n - x.2.2.2.2) rfl ?_ ?_
      · exact again (vt, vr, T, R, 0) ⟨hvr, g1, g2, Nat.zero_le _, hlt, g5, g6, g7, g8, g9⟩ trivial qF (Seals.sub qS)
      · rintro ⟨vt, vr, T, R, i⟩ ⟨hvr, g1, g2, g3', g4, g5, g6, g7, g8, g9⟩
        simp only at hvr g1 g2 g3' g4 g5 g6 g7 g8 g9 ⊢
        refine cmp_split _ rfl (fun hlt => ?_) (fun hlt => ?_)
        · have hin : i < n := by omega
          have s1 := rest_more g9
          have hre : re k (A.length + 1 - D.length - n + i) + k + 1 ≤ re k (p.length + 1) := by
            rw [← re_succ]; exact re_mono (by omega)
          have hre2 : re k (A.length + 1 - D.length - n + i) + k ≤ re k (A.length + 1 - D.length - n + (i + 1)) := by
            have := re_succ k (A.length + 1 - D.length - n + i)
            rw [show A.length + 1 - D.length - n + i + 1 = A.length + 1 - D.length - n + (i + 1) by omega] at this
            omega
          have z1 := (g7.prai hld 0).mono hre2
          have z2 := (g8.prai hld 0).mono hre2
          have l1 := prai_len (ld D) 0 T
          have l2 := prai_len (ld D) 0 R
          have c1 := fun u u' => pRaisedT u u' T (ld D) 0 _ k g7 hld (by omega) (by omega) (by omega)
          have c4 := fun u u' => pRaisedOT u u' R (ld D) 0 _ k g8 hld (by omega) (by omega) (by omega)
          refine call_fn (pLeadN x2 D hDn hD0) (Seals.refl _ _) qS ?_
          rintro y3 _ _ ⟨rfl, rfl⟩
          refine call_fn (c1 vt y3) (Seals.refl _ _) qS ?_
          rintro y4 _ _ ⟨rfl, rfl⟩
          refine call_fn (pLeadN x2 D hDn hD0) (Seals.refl _ _) qS ?_
          rintro y5 _ _ ⟨rfl, rfl⟩
          refine call_fn (c4 vr y5) (Seals.L 0 rfl hvr) qS ?_
          rintro y6 _ _ ⟨hy6, rfl, rfl⟩
          refine ar rfl qI ?_
          refine again (y4, y6, prai (ld D) 0 T, prai (ld D) 0 R, i + 1) ⟨hy6, prai_nm _ _ _, prai_nm _ _ _, hin, by simp only; omega, by simp only; omega, by simp only; omega, z1, z2, fun y => s1 y⟩ (by simp only; omega) qF (Seals.sub qS)
        · have hin : i = n := by omega
          have q4 := g4
          subst hin
          have hj : A.length + 1 - D.length - i + i = A.length + 1 - D.length := by omega
          rw [hj] at g7 g8 g9
          refine fin ⟨vt, vr, T, R, hvr, rfl, ?_, rfl⟩ (Seals.sub qS)
          rw [if_neg (by omega)]
          exact ⟨rfl, hspec T R g1 g2 q4 g9, g7, g8, g5, g6⟩
theorem pRest_meets (v w : Value) (p q : Row) (k : Nat) (hp : Fit k p) (hq : Fit k q) (h1k : 1 ≤ k) (hk : re k (p.length + 1) ≤ 137438953472) (lp : p.length ≤ 536870912) (lq : q.length ≤ 536870912) :
    Meets Tryz.prog 68 [v, w] [(v, V p), (w, V q)] (fun r os fs => os = [] ∧ ∃ a b T R, (if dg (vv q) = 0 then r = .tuple #[a, b, .int .i64 2] ∧ T = [] ∧ R = [] else r = .tuple #[a, b, .int .i64 0] ∧ RestSpec (vv p) (vv q) T R ∧ szR (re k (dg (vv p) + 1 - dg (vv q))) T ∧ szR (re k (dg (vv p) + 1 - dg (vv q))) R ∧ T.length ≤ p.length ∧ R.length ≤ p.length) ∧
      fs = [(a, vd T), (b, vd R)]) :=
  (pRestO_meets v w p q k hp hq h1k hk lp lq).closed fun r os fs ⟨a, b, T, R, h1, h2, h3, h4⟩ => ⟨_, _, ⟨rfl, a, b, T, R, h3, rfl⟩, by
    subst h2 h4
    exact Seals.trans (Seals.toldL h1) (Seals.sub qS)⟩
theorem pRestT (v w : Value) (p q : List Int) (k : Nat) (hp : szR k p) (hq : szR k q) (h1k : 1 ≤ k) (hk : re k (p.length + 1) ≤ 137438953472) (lp : p.length ≤ 536870912) (lq : q.length ≤ 536870912) :
    Meets Tryz.prog 68 [v, w] [(v, vd p), (w, vd q)] (fun r os fs => os = [] ∧ ∃ a b T R, (if dg q = 0 then r = .tuple #[a, b, .int .i64 2] ∧ T = [] ∧ R = [] else r = .tuple #[a, b, .int .i64 0] ∧ RestSpec p q T R ∧ szR (re k (dg p + 1 - dg q)) T ∧ szR (re k (dg p + 1 - dg q)) R ∧ T.length ≤ p.length ∧ R.length ≤ p.length) ∧
      fs = [(a, vd T), (b, vd R)]) := by
  have h := pRest_meets v w (p.map cn) (q.map cn) k hp.fit hq.fit h1k (by rw [List.length_map]; exact hk) (by rw [List.length_map]; exact lp) (by rw [List.length_map]; exact lq)
  rw [vv_cn, vv_cn, List.length_map] at h
  exact h
theorem pRestOT (v w : Value) (p q : List Int) (k : Nat) (hp : szR k p) (hq : szR k q) (h1k : 1 ≤ k) (hk : re k (p.length + 1) ≤ 137438953472) (lp : p.length ≤ 536870912) (lq : q.length ≤ 536870912) :
    Meets Tryz.prog 68 [v, w] [(v, vd p), (w, vd q)] (fun r os fs => ∃ a b T R, isSl b ∧ os = [ownL 2 J z0 b (R.map cn)] ∧ (if dg q = 0 then r = .tuple #[a, b, .int .i64 2] ∧ T = [] ∧ R = [] else r = .tuple #[a, b, .int .i64 0] ∧ RestSpec p q T R ∧ szR (re k (dg p + 1 - dg q)) T ∧ szR (re k (dg p + 1 - dg q)) R ∧ T.length ≤ p.length ∧ R.length ≤ p.length) ∧
      fs = [(a, vd T)]) := by
  have h := pRestO_meets v w (p.map cn) (q.map cn) k hp.fit hq.fit h1k (by rw [List.length_map]; exact hk) (by rw [List.length_map]; exact lp) (by rw [List.length_map]; exact lq)
  rw [vv_cn, vv_cn, List.length_map] at h
  exact h
open Go.RowKit
theorem re_one (k j : Nat) : re k j + 1 = (k + 1) * (j + 1) := by
  unfold re; grind
theorem two_three (d : Nat) : d + 2 ≤ 2 * 3 ^ d := by
  induction d with
  | zero => decide
  | succ d ih => rw [Nat.pow_succ]; omega
theorem szR.pprim {k : Nat} {l : List Int} (h : szR k l) : szR k (pprim l) := szR.nrm fun x hx => by
  obtain ⟨y, hy, rfl⟩ := List.mem_map.1 hx
  exact sz_div (h.nrm y hy)
theorem pprim_len (l : List Int) : (pprim l).length ≤ dg l := Nat.le_trans (nrm_length_le _) (by rw [List.length_map]; exact Nat.le_refl _)
def ge (k s d : Nat) : Nat := (k + 1) * (2 ^ s * 3 ^ d)
theorem ge_step {e k s d j δ : Nat} (h : e + 1 ≤ ge k s d) (hj : j + 1 ≤ δ + 2) : re e j + 1 ≤ ge k (s + 1) (d + δ) := by
  rw [re_one]
  have h1 : (e + 1) * (j + 1) ≤ ge k s d * (2 * 3 ^ δ) := Nat.mul_le_mul h (Nat.le_trans hj (two_three δ))
  have h2 : ge k s d * (2 * 3 ^ δ) = ge k (s + 1) (d + δ) := by
    unfold ge
    rw [Nat.pow_succ, Nat.pow_add, Nat.mul_assoc]
    congr 1
    rw [Nat.mul_assoc, Nat.mul_assoc, ← Nat.mul_assoc (3 ^ d), Nat.mul_comm (3 ^ d) 2, Nat.mul_assoc]
  omega
theorem ge_mono {k s s' d d' : Nat} (hs : s ≤ s') (hd : d ≤ d') : ge k s d ≤ ge k s' d' :=
  Nat.mul_le_mul_left _ (Nat.mul_le_mul (Nat.pow_le_pow_right (by decide) hs) (Nat.pow_le_pow_right (by decide) hd))
theorem three_two : ∀ {n : Nat}, 1 ≤ n → n + 2 ≤ 3 ^ n
  | 1, _ => by decide
  | n + 2, _ => by
    have := three_two (n := n + 1) (by omega)
    rw [Nat.pow_succ]; omega
theorem ge_three (k s d j : Nat) : ge k s d * 3 ^ j = ge k s (d + j) := by unfold ge; rw [Nat.pow_add]; grind
theorem ge_turn {k n : Nat} (h : 1 ≤ n) : ge k n (n - 1) ≤ ge k (n - 1) n := by
  obtain ⟨m, rfl⟩ : ∃ m, n = m + 1 := ⟨n - 1, by omega⟩
  rw [Nat.add_sub_cancel]
  unfold ge
  refine Nat.mul_le_mul_left _ ?_
  rw [Nat.pow_succ, Nat.pow_succ, show 2 ^ m * 2 * 3 ^ m = 2 ^ m * (3 ^ m * 2) by grind]
  exact Nat.mul_le_mul_left _ (Nat.mul_le_mul_left _ (by decide))
theorem ge_old (k n : Nat) : ge k (n - 1) n + k ≤ ge k n n * (n + 2) := by
  have h1 : ge k (n - 1) n ≤ ge k n n := ge_mono (by omega) (Nat.le_refl _)
  have h2 : k + 1 ≤ ge k n n := by
    unfold ge
    exact Nat.le_mul_of_pos_right _ (Nat.mul_pos (Nat.pow_pos (by decide)) (Nat.pow_pos (by decide)))
  have h3 : ge k n n * 2 ≤ ge k n n * (n + 2) := Nat.mul_le_mul_left _ (by omega)
  omega
theorem pGcdN_meets (v w : Value) (p q : Row) (k n : Nat) (hp : Fit k p) (hq : Fit k q) (h1k : 1 ≤ k) (lp : p.length ≤ n) (lq : q.length ≤ n) (hn : n ≤ 536870912) (hk : ge k (n - 1) n + k ≤ 137438953472) :
    Meets Tryz.prog 103 [v, w] [(v, V p), (w, V q)] (fun r os fs => os = [] ∧ ∃ G, Nm G ∧ Gc G (vv p) (vv q) ∧ fs = [(r, vd G)]) := by
  have hge1 : k + 1 ≤ ge k (n - 1) n := by
    unfold ge
    exact Nat.le_mul_of_pos_right _ (Nat.mul_pos (Nat.pow_pos (by decide)) (Nat.pow_pos (by decide)))
  have hcs1 : sz (cont (vv p) : Nat) k := cont_sz hp.szR
  have hcs2 : sz (cont (vv q) : Nat) k := cont_sz hq.szR
  have sP := hp.szR.pprim
  have sQ := hq.szR.pprim
  have dP : dg (vv p) ≤ n := Nat.le_trans (dg_le_len _) (by rw [vv_len]; exact lp)
  have dQ : dg (vv q) ≤ n := Nat.le_trans (dg_le_len _) (by rw [vv_len]; exact lq)
  have eP : (pprim (vv p)).length = dg (vv p) := by rw [← dg_nm (pprim_nm _), pprim_dg]
  have eQ : (pprim (vv q)).length = dg (vv q) := by rw [← dg_nm (pprim_nm _), pprim_dg]
  have hcg : sz ((Nat.gcd (cont (vv p)) (cont (vv q)) : Nat) : Int) k := by
    by_cases e : cont (vv p) = 0
    · rw [e, Nat.gcd_zero_left]; exact hcs2
    · unfold sz at hcs1 ⊢
      rw [Int.natAbs_natCast] at hcs1 ⊢
      exact Nat.lt_of_le_of_lt (Nat.gcd_le_left _ (Nat.pos_of_ne_zero e)) hcs1
  have hgc := fun u u' => zGcdZ u u' _ _ k k hcs1 hcs2 (by omega) (by omega)
  simp only [Int.natAbs_natCast] at hgc
  refine meets_of_vc Tryz.func103 (by kernel_rfl) rfl (by kernel_rfl) (Nat.le_of_ble_eq_true rfl) ?_
  refine call_fn (pContent_meets v p k hp (by omega)) (Seals.refl _ _) qS ?_
  rintro x1 _ _ ⟨rfl, rfl⟩
  refine call_fn (pContent_meets w q k hq (by omega)) (Seals.refl _ _) qS ?_
  rintro x2 _ _ ⟨rfl, rfl⟩
  refine call_fn (hgc x1 x2) (Seals.refl _ _) qS ?_
  rintro x3 _ _ ⟨rfl, rfl⟩
  refine alloc_rule (d := I false []) fun c hc => ?_
  refine store_box (d := zd (Nat.gcd (cont (vv p)) (cont (vv q)) : Nat)) 0 rfl hc rfl (by kernel_rfl) ?_ ?_; exact Reads.fact qM
  refine call_fn (pPrimitive_meets v p k hp (by omega) (by omega)) (Seals.refl _ _) qS ?_
  rintro x4 _ _ ⟨rfl, rfl⟩
  refine call_fn (pPrimitive_meets w q k hq (by omega) (by omega)) (Seals.refl _ _) qS ?_
  rintro x5 _ _ ⟨rfl, rfl⟩
  refine loop_rule (X := Value × Value × List Int × List Int × Nat × Nat × Nat) (fun x => ([(5, c), (6, x.1), (7, x.2.1)], [own1 c 2 1 (fun _ => zd (Nat.gcd (cont (vv p)) (cont (vv q)) : Nat))], [(x.1, vd x.2.2.1), (x.2.1, vd x.2.2.2.1)]))
    (fun x => Nm x.2.2.1 ∧ Nm x.2.2.2.1 ∧ x.2.2.2.1.length + x.2.2.2.2.1 ≤ n ∧ x.2.2.2.2.2.1 + max x.2.2.1.length x.2.2.2.1.length ≤ n ∧ szR x.2.2.2.2.2.2 x.2.2.1 ∧ szR x.2.2.2.2.2.2 x.2.2.2.1 ∧ 1 ≤ x.2.2.2.2.2.2 ∧ (x.2.2.2.2.2.2 + 1 ≤ ge k x.2.2.2.2.1 x.2.2.2.2.2.1 ∧ x.2.2.2.2.2.2 + 1 ≤ ge k (n - 1) n) ∧
      (0 < dg x.2.2.1 → cont x.2.2.1 = 1 ∧ 0 < ld x.2.2.1) ∧ (0 < dg x.2.2.2.1 → cont x.2.2.2.1 = 1 ∧ 0 < ld x.2.2.2.1) ∧ (dg x.2.2.1 = 0 ∧ dg x.2.2.2.1 = 0 → dg (vv p) = 0 ∧ dg (vv q) = 0) ∧
      (∀ h, cont h = 1 → (Dv h x.2.2.1 ∧ Dv h x.2.2.2.1 ↔ Dv h (pprim (vv p)) ∧ Dv h (pprim (vv q))))) (fun x => x.2.2.2.1.length) rfl ?_ ?_
  · refine again (x4, x5, pprim (vv p), pprim (vv q), 0, 0, k) ⟨pprim_nm _, pprim_nm _, by simp only; omega, by simp only; omega, sP, sQ, h1k, ⟨by simp [ge], hge1⟩, fun h => ?_, fun h => ?_, fun h => ?_, fun _ _ => Iff.rfl⟩ trivial qF (Seals.trans (Seals.box0 rfl) (Seals.sub qS))
    · simp only [pprim_dg] at h; exact ⟨pprim_cont h, pprim_ld h⟩
    · simp only [pprim_dg] at h; exact ⟨pprim_cont h, pprim_ld h⟩
    · simp only [pprim_dg] at h; exact h
  · rintro ⟨va, vb, A, B, s, d, e⟩ ⟨g1, g2, g3, g4, g5, g6, g7, ⟨g8, g8'⟩, g9, g10, g11, g12⟩
    simp only at g1 g2 g3 g4 g5 g6 g7 g8 g8' g9 g10 g11 g12 ⊢
    have hed : e + k + 1 ≤ 137438953472 := by omega
    refine len_vd qM ?_
    refine cmp_split _ rfl (fun hgt => ?_) (fun hgt => ?_)
    · have hB : 0 < dg B := by rw [dg_nm g2]; omega
      have hrb : re e (A.length + 1) ≤ 137438953472 := by
        have h1 := re_one e (A.length + 1)
        have h2 : (e + 1) * (A.length + 1 + 1) ≤ ge k s d * 3 ^ (max A.length B.length) := Nat.mul_le_mul g8 (Nat.le_trans (by omega) (three_two (by omega)))
        rw [ge_three] at h2
        have h3 := Nat.le_trans h2 (ge_mono (k := k) (s' := n - 1) (d' := n) (by omega) (by omega))
        omega
      have hrs := pRestT va vb A B e g5 g6 g7 hrb (by omega) (by omega)
      simp only [if_neg (show ¬ dg B = 0 by omega)] at hrs
      refine call_fn hrs (Seals.refl _ _) qS ?_
      rintro _ _ _ ⟨rfl, a, b, T, R, ⟨rfl, hsp, hT, hR, lT, lR⟩, rfl⟩
      have hst := ge_step (j := dg A + 1 - dg B) (δ := dg A - dg B) g8 (by omega)
      have hRB : dg R < dg B := hsp.low
      have hed2 : re e (dg A + 1 - dg B) + 1 ≤ ge k (n - 1) n := Nat.le_trans hst (Nat.le_trans (ge_mono (s' := n) (d' := n - 1) (by omega) (by rw [dg_nm g1, dg_nm g2]; omega)) (ge_turn (by omega)))
      have hk0 : ld B ^ (dg A + 1 - dg B) ≠ 0 := by
        have h0 := ld_ne hB
        have : ∀ m : Nat, ld B ^ m ≠ 0 := fun m => by
          induction m with
          | zero => rw [Int.pow_zero]; omega
          | succ m ih => rw [Int.pow_succ]; exact Int.mul_ne_zero ih h0
        exact this _
      have hge0 : e ≤ re e (dg A + 1 - dg B) := re_ge _ _
      have lR' : (pprim R).length = dg R := by rw [← dg_nm (pprim_nm R), pprim_dg]
      have dA := dg_nm g1
      have dB := dg_nm g2
      refine call_fn (pPrimitiveT b R _ hR (by omega) (by omega)) (Seals.refl _ _) qS ?_
      rintro y1 _ _ ⟨rfl, rfl⟩
      refine again (vb, y1, B, pprim R, s + 1, d + (dg A - dg B), re e (dg A + 1 - dg B)) ⟨g2, pprim_nm _, by simp only; omega, by simp only; omega, g6.mono hge0, hR.pprim, by simp only; omega, ⟨hst, hed2⟩, g10, fun h => ?_, fun h => by simp only at h; omega, fun h hh => ?_⟩ (by simp only; omega) qF (Seals.trans (Seals.box0 rfl) (Seals.sub qS))
      · simp only [pprim_dg] at h; exact ⟨pprim_cont h, pprim_ld h⟩
      · rw [← g12 h hh]
        exact (gcd_step hh hk0 hsp.eq).symm
    · have hB : dg B = 0 := by rw [dg_nm g2]; omega
      have hend := gcd_end (p := vv p) (q := vv q) (a := A) g9 (fun h => g11 ⟨h, hB⟩) fun h hh => by
        rw [← g12 h hh]
        exact ⟨fun k => ⟨k, Dv.zero _ (dg_zero.1 hB)⟩, fun k => k.1⟩
      have hra := fun u => pRaisedT va u A _ 0 e k g5 hcg (by omega) (by omega) (by omega)
      simp only [prai_zero] at hra
      refine load_box (d := zd (Nat.gcd (cont (vv p)) (cont (vv q)) : Nat)) 0 rfl hc rfl (load_I _ _) fun y1 => ?_
      refine call_fn (hra y1) (Seals.refl _ _) qS ?_
      rintro r _ _ ⟨rfl, rfl⟩
      exact fin ⟨rfl, _, ptim_nm _ _, hend, rfl⟩ (Seals.trans (Seals.drop 0 _ _) (Seals.sub qS))
end Go.Proofs.YtgpcepcbdpigfaaGreat
namespace Go.Proofs.YtgpcepcbdpigfaaGreat
def syn (a : Int) : List Int → List Int
  | [] => []
  | [_] => []
  | _ :: d :: l => pev (d :: l) a :: syn a (d :: l)
theorem syn_len (a : Int) : ∀ l : List Int, (syn a l).length = l.length - 1
  | [] => rfl
  | [_] => rfl
  | _ :: d :: l => by
    have := syn_len a (d :: l)
    simp only [syn, List.length_cons] at this ⊢
    omega
theorem syn_ev (a x : Int) : ∀ l : List Int, pev l x = pev l a + (x - a) * pev (syn a l) x
  | [] => by simp [pev, syn]
  | [c] => by simp [pev, syn]
  | c :: d :: l => by
    have := syn_ev a x (d :: l)
    show c + x * pev (d :: l) x = c + a * pev (d :: l) a + (x - a) * (pev (d :: l) a + x * pev (syn a (d :: l)) x)
    rw [this]; grind
theorem syn_co (a : Int) : ∀ (l : List Int) (i : Nat), l.getD i 0 = (if i = 0 then pev l a else (syn a l).getD (i - 1) 0) - a * (syn a l).getD i 0
  | [], i => by simp [pev, syn]
  | [c], i => by cases i <;> simp [pev, syn]
  | c :: d :: l, 0 => by
    show c = c + a * pev (d :: l) a - a * pev (d :: l) a
    omega
  | c :: d :: l, 1 => by
    have := syn_co a (d :: l) 0
    simp only [if_true] at this
    show (d :: l).getD 0 0 = pev (d :: l) a - a * (syn a (d :: l)).getD 0 0
    exact this
  | c :: d :: l, i + 2 => by
    have := syn_co a (d :: l) (i + 1)
    rw [if_neg (by omega)] at this
    show (d :: l).getD (i + 1) 0 = (syn a (d :: l)).getD i 0 - a * (syn a (d :: l)).getD (i + 1) 0
    exact this
theorem bnd : ∀ (n : Nat) (P : List Int) (pts : Nat → Int) (A B : Nat), P.length ≤ n + 1 → (∀ i, i ≤ n → (pts i).natAbs ≤ A) → (∀ i j, i ≤ n → j ≤ n → i ≠ j → pts i ≠ pts j) → (∀ i, i ≤ n → (pev P (pts i)).natAbs ≤ B) →
    ∀ j, (P.getD j 0).natAbs ≤ B * (2 * A + 3) ^ n
  | 0, P, pts, A, B, hl, _, _, hv, j => by
    have h0 := hv 0 (Nat.le_refl _)
    match P, hl with
    | [], _ => simp
    | [c], _ =>
      simp only [pev] at h0
      cases j with
      | zero => simp at h0 ⊢; exact h0
      | succ j => simp
    | _ :: _ :: _, h => simp at h
  | n + 1, P, pts, A, B, hl, hA, hi, hv, j => by
    have ih := bnd n (syn (pts (n + 1)) P) pts A (2 * B) (by rw [syn_len]; omega) (fun i h => hA i (by omega)) (fun i j h1 h2 => hi i j (by omega) (by omega)) fun i h => by
      have h1 := syn_ev (pts (n + 1)) (pts i) P
      have h2 := hv i (by omega)
      have h3 := hv (n + 1) (Nat.le_refl _)
      have h4 := hi i (n + 1) (by omega) (Nat.le_refl _) (by omega)
      have h5 : ((pts i - pts (n + 1)) * pev (syn (pts (n + 1)) P) (pts i)).natAbs ≤ 2 * B := by
        have : (pts i - pts (n + 1)) * pev (syn (pts (n + 1)) P) (pts i) = pev P (pts i) - pev P (pts (n + 1)) := by omega
        rw [this]
        have := Int.natAbs_sub_le (pev P (pts i)) (pev P (pts (n + 1)))
        omega
      rw [Int.natAbs_mul] at h5
      have h6 : 1 ≤ (pts i - pts (n + 1)).natAbs := by omega
      exact Nat.le_trans (Nat.le_mul_of_pos_left _ h6) h5
    have hp : 1 ≤ (2 * A + 3) ^ n := Nat.pow_pos (by omega)
    have hq : ∀ m, ((syn (pts (n + 1)) P).getD m 0).natAbs ≤ 2 * B * (2 * A + 3) ^ n := ih
    have h1 := syn_co (pts (n + 1)) P j
    have h2 : (pts (n + 1) * (syn (pts (n + 1)) P).getD j 0).natAbs ≤ A * (2 * B * (2 * A + 3) ^ n) := by
      rw [Int.natAbs_mul]
      exact Nat.mul_le_mul (hA _ (Nat.le_refl _)) (hq j)
    have h3 : (if j = 0 then pev P (pts (n + 1)) else (syn (pts (n + 1)) P).getD (j - 1) 0).natAbs ≤ B + 2 * B * (2 * A + 3) ^ n := by
      split
      · exact Nat.le_trans (hv _ (Nat.le_refl _)) (Nat.le_add_right _ _)
      · exact Nat.le_trans (hq _) (Nat.le_add_left _ _)
    have h4 : (P.getD j 0).natAbs ≤ B + 2 * B * (2 * A + 3) ^ n + A * (2 * B * (2 * A + 3) ^ n) := by
      rw [h1]
      exact Nat.le_trans (Int.natAbs_sub_le _ _) (Nat.add_le_add h3 h2)
    refine Nat.le_trans h4 ?_
    have h5 : B ≤ B * (2 * A + 3) ^ n := Nat.le_mul_of_pos_right _ hp
    have h6 : B * (2 * A + 3) ^ (n + 1) = B * (2 * A + 3) ^ n + (2 * B * (2 * A + 3) ^ n + A * (2 * B * (2 * A + 3) ^ n)) := by
      rw [Nat.pow_succ]; grind
    omega
theorem ev_ne {H : Nat} {x : Int} (hx : H < x.natAbs) : ∀ {l : List Int}, (∀ i, (l.getD i 0).natAbs ≤ H) → pev l x = 0 → ∀ i, l.getD i 0 = 0
  | [], _, _, i => by simp
  | c :: l, h, e, i => by
    simp only [pev] at e
    have h0 : c = 0 := by
      have := h 0
      simp only [List.getD_cons_zero] at this
      exact small_dvd (x := x) (k := - pev l x) (by rw [Int.mul_neg]; omega) (by omega)
    have h1 : pev l x = 0 := by
      rw [h0] at e
      rcases Int.mul_eq_zero.1 (show x * pev l x = 0 by omega) with h2 | h2
      · omega
      · exact h2
    cases i with
    | zero => simpa using h0
    | succ i => simpa using ev_ne hx (fun i => by have := h (i + 1); simpa using this) h1 i
theorem dv_bnd {s w : List Int} {H B n : Nat} (h : Dv s w) (hw : 0 < dg w) (hH : ∀ i, (w.getD i 0).natAbs ≤ H) (hs : s.length ≤ n + 1) (hB : ∀ i, i ≤ n → (pev w (H + 1 + i : Nat)).natAbs ≤ B) (j : Nat) :
    (s.getD j 0).natAbs ≤ B * (2 * (H + 1 + n) + 3) ^ n := by
  refine bnd n s (fun i => ((H + 1 + i : Nat) : Int)) (H + 1 + n) B hs (fun i hi => by simp only [Int.natAbs_natCast]; omega) (fun i j _ _ hne he => hne (by omega)) (fun i hi => ?_) j
  obtain ⟨u, hu⟩ := h
  have h1 := hB i hi
  have h2 : pev w (H + 1 + i : Nat) ≠ 0 := fun e => by
    have := ev_ne (H := H) (x := ((H + 1 + i : Nat) : Int)) (by rw [Int.natAbs_natCast]; omega) hH e
    have : dg w ≤ 0 := dg_le.2 fun i _ => this i
    omega
  rw [hu, Int.natAbs_mul] at h1
  have h3 : 1 ≤ (pev u (H + 1 + i : Nat)).natAbs := by
    rw [hu] at h2
    have : pev u (H + 1 + i : Nat) ≠ 0 := fun e => h2 (by rw [e]; simp)
    omega
  exact Nat.le_trans (Nat.le_mul_of_pos_right _ h3) h1
open Go.RowKit
def dvk (k N : Nat) : Nat := k + 2 * (N * (k + 2)) + 1
theorem dv_szR {s w : List Int} {k N : Nat} (h : Dv s w) (hw : 0 < dg w) (hk : szR k w) (ns : Nm s) (hN : dg w ≤ N) (h32 : N ≤ 4294967296) : szR (dvk k N) s := by
  have hs0 := h.deg hw
  have hls : s.length = dg s := (dg_nm ns).symm
  have hP : 0 < 18446744073709551616 ^ k := Nat.pow_pos (by decide)
  have hP1 : 18446744073709551616 ^ (k + 1) = 18446744073709551616 ^ k * 18446744073709551616 := Nat.pow_succ _ _
  have hP2 : 18446744073709551616 ^ (k + 2) = 18446744073709551616 ^ k * 18446744073709551616 * 18446744073709551616 := by rw [Nat.pow_succ, hP1]
  have hB : ∀ i, i ≤ N → (pev w (18446744073709551616 ^ k + 1 + i : Nat)).natAbs ≤ 18446744073709551616 ^ (k + N * (k + 2)) := fun i hi => by
    have hx : sz ((18446744073709551616 ^ k + 1 + i : Nat) : Int) (k + 1) := by
      unfold sz
      rw [Int.natAbs_natCast, hP1]
      omega
    have h1 := ev_sz hk.nrm hx
    rw [ev_nrm] at h1
    have h2 : k + (nrm w).length * (k + 1 + 1) ≤ k + N * (k + 2) := Nat.add_le_add_left (Nat.mul_le_mul_right _ hN) _
    exact Nat.le_of_lt (h1.mono h2)
  have hb := dv_bnd (n := dg s - 1) h hw (fun i => Nat.le_of_lt (hk.get i)) (by omega) fun i hi => hB i (by omega)
  intro x hx
  obtain ⟨j, hj, rfl⟩ := List.mem_iff_getElem.1 hx
  have h1 := hb j
  rw [List.getD_eq_getElem?_getD, List.getElem?_eq_getElem hj] at h1
  have h2 : 2 * (18446744073709551616 ^ k + 1 + (dg s - 1)) + 3 ≤ 18446744073709551616 ^ (k + 2) := by
    rw [hP2]; omega
  have h3 : (2 * (18446744073709551616 ^ k + 1 + (dg s - 1)) + 3) ^ (dg s - 1) ≤ 18446744073709551616 ^ (N * (k + 2)) := by
    refine Nat.le_trans (Nat.pow_le_pow_left h2 _) ?_
    rw [← Nat.pow_mul]
    refine Nat.pow_le_pow_right (by decide) ?_
    rw [Nat.mul_comm]
    exact Nat.mul_le_mul_right _ (by omega)
  unfold sz
  have h4 : 18446744073709551616 ^ (k + N * (k + 2)) * 18446744073709551616 ^ (N * (k + 2)) = 18446744073709551616 ^ (k + 2 * (N * (k + 2))) := by
    rw [← Nat.pow_add]; congr 1; omega
  have h5 : (s[j]).natAbs ≤ 18446744073709551616 ^ (k + 2 * (N * (k + 2))) := by
    rw [← h4]
    exact Nat.le_trans h1 (Nat.mul_le_mul (Nat.le_refl _) h3)
  refine Nat.lt_of_le_of_lt h5 ?_
  unfold dvk
  exact Nat.pow_lt_pow_right (by decide) (by omega)
open Go.RowKit
theorem div_dg {R D : List Int} {c : Int} (hD : 0 < dg D) (hR : dg D ≤ dg R) (hc : c * ld D = ld R) : dg (psub R (prai c (dg R - dg D) D)) < dg R := by
  have : dg (psub R (prai c (dg R - dg D) D)) ≤ dg R - 1 := dg_le.2 fun i hi => by
    rw [co_psub, co_prai, if_neg (by omega)]
    by_cases h : i = dg R - 1
    · rw [h, show dg R - 1 - (dg R - dg D) = dg D - 1 by omega]
      show ld R - c * ld D = 0
      omega
    · rw [dg_le.1 (Nat.le_refl (dg R)) i (by omega), dg_le.1 (Nat.le_refl (dg D)) (i - (dg R - dg D)) (by omega)]; simp
  omega
structure DivSpec (p q t : List Int) (e : Int) : Prop where
  tn : Nm t
  zero : dg q = 0 → e = 2 ∧ t = []
  ok : 0 < dg q → Dv q p → e = 0 ∧ ∀ x, pev p x = pev q x * pev t x
  no : 0 < dg q → ¬ Dv q p → e = 11 ∧ t = []
theorem DivSpec.unique {p q t t' : List Int} {e e' : Int} (h : DivSpec p q t e) (h' : DivSpec p q t' e') : t = t' ∧ e = e' := by
  by_cases h0 : dg q = 0
  · rw [(h.zero h0).1, (h.zero h0).2, (h'.zero h0).1, (h'.zero h0).2]; exact ⟨rfl, rfl⟩
  · have h0 : 0 < dg q := by omega
    by_cases hd : Dv q p
    · obtain ⟨h1, h2⟩ := h.ok h0 hd
      obtain ⟨h3, h4⟩ := h'.ok h0 hd
      exact ⟨h.tn.ext h'.tn (cancel h0 fun x => by rw [← h2, ← h4]), by rw [h1, h3]⟩
    · rw [(h.no h0 hd).1, (h.no h0 hd).2, (h'.no h0 hd).1, (h'.no h0 hd).2]; exact ⟨rfl, rfl⟩
def put (f : Nat → Int) (s : Nat) (c : Int) : Nat → Int := fun y => if y = s then c else f y
theorem ev_put {N s : Nat} {f : Nat → Int} (hs : s < N) (h0 : f s = 0) (c x : Int) : pev (lst N (put f s c)) x = pev (lst N f) x + c * x ^ s := by
  have e : ∀ y, put f s c y = f y + (if s ≤ y then c * [1].getD (y - s) 0 else 0) := fun y => by
    unfold put
    by_cases h : y = s
    · subst h
      rw [if_pos rfl, if_pos (Nat.le_refl _), Nat.sub_self, h0]; simp
    · rw [if_neg h]
      split
      · rw [getD_none (l := [1]) (by simp; omega)]; simp
      · simp
  have e2 : lst N (put f s c) = lst N fun y => f y + (if s ≤ y then c * [1].getD (y - s) 0 else 0) := lst_congr fun y _ => e y
  rw [e2, ev_lst_add, ev_shifted [1] s N (by simp; omega)]
  simp [pev]
theorem div_step {P D R : List Int} {f : Nat → Int} {N : Nat} {c : Int} (hs : R.length - D.length < N) (h0 : f (R.length - D.length) = 0) (e : ∀ x, pev P x = pev D x * pev (lst N f) x + pev R x) :
    ∀ x, pev P x = pev D x * pev (lst N (put f (R.length - D.length) c)) x + pev (psub R (prai c (R.length - D.length) D)) x := fun x => by
  rw [ev_put hs h0, ev_psub, ev_prai, e]; grind
theorem div_no {P D R T : List Int} (e : ∀ x, pev P x = pev D x * pev T x + pev R x) (h : Dv D P) : Dv D R :=
  h.sub (c := pmul D T) ⟨T, fun x => ev_pmul _ _ _⟩ fun x => by rw [e, ev_pmul]; omega
theorem ld_dvd {D R : List Int} (h : Dv D R) (hR : 0 < dg R) : ld D ∣ ld R := by
  obtain ⟨u, hu⟩ := h
  have hd := (show Dv D R from ⟨u, hu⟩).deg hR
  have hu0 : 0 < dg u := dg_pos fun e => by
    have := (dg_zero (l := R)).2 fun x => by rw [hu, e]; simp
    omega
  exact ⟨ld u, (mul_dg hu hd.1 hu0).2⟩
theorem pDivideO_meets (v w : Value) (p q : Row) (k l : Nat) (hp : Fit k p) (hq : Fit l q) (hk : k + (p.length + 1) * (l + 1) ≤ 137438953472) (lp : p.length ≤ 536870912) (lq : q.length ≤ 536870912) :
    Meets Tryz.prog 102 [v, w] [(v, V p), (w, V q)] (fun r os fs => ∃ a t e, r = .tuple #[a, .int .i64 e] ∧ DivSpec (vv p) (vv q) t e ∧ isSl a ∧ szR (k + (p.length + 1) * (l + 1)) t ∧ os = [ownL 2 J z0 a (t.map cn)] ∧ fs = []) := by
  have hm1 : (p.length + 1) * (l + 1) = p.length * (l + 1) + (l + 1) := Nat.succ_mul _ _
  have n1 := pNorm_meets v p (hp.mono (by omega)) (by omega)
  have n2 := pNorm_meets w q (hq.mono (by omega)) (by omega)
  have sP := hp.szR.nrm
  have sD := hq.szR.nrm
  have la : (nrm (vv p)).length ≤ p.length := Nat.le_trans (nrm_length_le _) (by rw [vv_len]; exact Nat.le_refl _)
  have lb : (nrm (vv q)).length ≤ q.length := Nat.le_trans (nrm_length_le _) (by rw [vv_len]; exact Nat.le_refl _)
  have hPn : Nm (nrm (vv p)) := nrm_nrm _
  have hDn : Nm (nrm (vv q)) := nrm_nrm _
  have hdq : dg (vv q) = (nrm (vv q)).length := rfl
  have hdv : Dv (vv q) (vv p) → Dv (nrm (vv q)) (nrm (vv p)) := fun h => h.ext (fun x => (ev_nrm _ x).symm) fun x => (ev_nrm _ x).symm
  have hbad : 0 < (nrm (vv q)).length → ¬ Dv (nrm (vv q)) (nrm (vv p)) → DivSpec (vv p) (vv q) [] 11 := fun h0 hn => ⟨rfl, fun h => by omega, fun _ h => (hn (hdv h)).elim, fun _ _ => ⟨rfl, rfl⟩⟩
  have hgood : ∀ T, (0 < (nrm (vv q)).length) → (∀ x, pev (nrm (vv p)) x = pev (nrm (vv q)) x * pev T x) → DivSpec (vv p) (vv q) (nrm T) 0 := fun T h0 hn => ⟨nrm_nrm _, fun h => by omega, fun _ _ => ⟨rfl, fun x => by rw [ev_nrm, ← ev_nrm (vv p), ← ev_nrm (vv q)]; exact hn x⟩, fun _ h => (h ⟨T, fun x => by rw [← ev_nrm (vv p), ← ev_nrm (vv q)]; exact hn x⟩).elim⟩
  have hzero : (nrm (vv q)).length = 0 → DivSpec (vv p) (vv q) [] 2 := fun h0 => ⟨rfl, fun _ => ⟨rfl, rfl⟩, fun h => by omega, fun h => by omega⟩
  generalize hA : nrm (vv p) = A at *
  generalize hB : nrm (vv q) = D at *
  generalize hE : k + (p.length + 1) * (l + 1) = E at *
  refine meets_of_vc Tryz.func102 (by kernel_rfl) rfl (by kernel_rfl) (Nat.le_of_ble_eq_true rfl) ?_
  refine call_fn n1 (Seals.refl _ _) qS ?_
  rintro x1 _ _ ⟨rfl, rfl⟩
  refine call_fn n2 (Seals.refl _ _) qS ?_
  rintro x2 _ _ ⟨rfl, rfl⟩
  refine len_vd qM ?_
  refine cmp_split _ rfl (fun hz => ?_) (fun hz => ?_)
  · exact fin ⟨_, [], 2, rfl, hzero (by omega), ⟨_, _, _, rfl⟩, fun x hx => by simp at hx, rfl, rfl⟩ (Seals.trans (Seals.nil _ _) (Seals.own_nil _ _ 2 _))
  have hD0 : 0 < D.length := by omega
  have dD := dg_nm hDn
  have hldD : ld D ≠ 0 := ld_ne (by omega)
  refine len_vd qM ?_
  refine len_vd qM ?_
  refine ar rfl qI ?_
  refine ar rfl qI ?_
  refine max2_rule ?_
  refine make_rule (t := 23) (d := I false []) (A.length + 1 - D.length) (by omega) (by omega) (by omega) (by omega) fun u hu => ?_
  generalize hN : A.length + 1 - D.length = N
  refine loop_rule (X := Value × List Int × (Nat → Int) × Nat) (fun x => ([(6, x.1), (7, x2), (8, u)], [own1 u 2 N (fun y => zd (x.2.2.1 y))], [(x2, vd D), (x.1, vd x.2.1)]))
    (fun x => Nm x.2.1 ∧ x.2.1.length + x.2.2.2 ≤ A.length ∧ szR (k + x.2.2.2 * (l + 1)) x.2.1 ∧ (∀ y, sz (x.2.2.1 y) E) ∧ (∀ y, y + D.length ≤ x.2.1.length → x.2.2.1 y = 0) ∧ ∀ x', pev A x' = pev D x' * pev (lst N x.2.2.1) x' + pev x.2.1 x') (fun x => x.2.1.length) rfl ?_ ?_
  · refine again (x1, A, fun _ => 0, 0) ⟨hPn, by simp only; omega, by simp only [Nat.zero_mul, Nat.add_zero]; exact sP, fun _ => sz_zero _, fun _ _ => rfl, fun x => by simp only [ev_lst_zero]; omega⟩ trivial qF (Seals.trans (Seals.own_cong (os := [_]) 0 (fun _ => zd 0) rfl rfl fun y _ => zero_zd) (Seals.sub qS))
  · rintro ⟨vr, R, f, j⟩ ⟨g1, g2, g3, g4, g5, g6⟩
    simp only at g1 g2 g3 g4 g5 g6 ⊢
    have dR := dg_nm g1
    refine len_vd qM ?_
    refine len_vd qM ?_
    refine cmp_split _ rfl (fun hge => ?_) (fun hge => ?_)
    · have hge' : D.length ≤ R.length := by omega
      have hsN : R.length - D.length < N := by omega
      have hj1 : (j + 1) * (l + 1) ≤ (p.length + 1) * (l + 1) := Nat.mul_le_mul_right _ (by omega)
      have hj2 : (j + 1) * (l + 1) = j * (l + 1) + (l + 1) := Nat.succ_mul _ _
      have hlR : sz (ld R) (k + j * (l + 1)) := g3.get _
      have hlD : sz (ld D) l := sD.get _
      have hlc : sz (ld R / ld D) (k + j * (l + 1)) := sz_div hlR
      have hlm : sz (ld R % ld D) l := by
        have h1 := Int.emod_nonneg (ld R) hldD
        have h2 := Int.emod_lt (ld R) hldD
        unfold sz at hlD ⊢
        omega
      have hst := div_step (c := ld R / ld D) hsN (g5 _ (by omega)) g6
      have c5 := fun u' u'' => pRaisedT u' u'' D (ld R / ld D) (R.length - D.length) l _ sD hlc (by omega) (by omega) (by omega)
      have s5 : szR (k + j * (l + 1) + l) (prai (ld R / ld D) (R.length - D.length) D) := by
        have := sD.prai hlc (R.length - D.length)
        rwa [Nat.add_comm] at this
      have c6 := fun u' u'' => pSubT u' u'' R (prai (ld R / ld D) (R.length - D.length) D) _ (g3.mono (Nat.le_add_right _ l)) s5 (by omega) (by omega) (by have := prai_len (ld R / ld D) (R.length - D.length) D; omega)
      have z6 : szR (k + (j + 1) * (l + 1)) (psub R (prai (ld R / ld D) (R.length - D.length) D)) := ((g3.mono (Nat.le_add_right _ l)).psub s5).mono (by omega)
      have hnd : ld R % ld D ≠ 0 → ¬ Dv D A := fun h hd => h (Int.emod_eq_zero_of_dvd (ld_dvd (div_no g6 hd) (by omega)))
      have hdg : ld R % ld D = 0 → (psub R (prai (ld R / ld D) (R.length - D.length) D)).length < R.length := fun h => by
        have := div_dg (R := R) (D := D) (c := ld R / ld D) (by omega) (by omega) (Int.ediv_mul_cancel (Int.dvd_of_emod_eq_zero h))
        rw [dR, dD, dg_nm (psub_nm _ _)] at this
        exact this
      have hrn : Nm (psub R (prai (ld R / ld D) (R.length - D.length) D)) := psub_nm _ _
      have hpf : ∀ y, sz (put f (R.length - D.length) (ld R / ld D) y) E := fun y => by
        unfold put; split
        · exact hlc.mono (by omega)
        · exact g4 y
      have hup : ∀ y, upd (fun y => zd (f y)) (R.length - D.length) (zd (ld R / ld D)) y = zd (put f (R.length - D.length) (ld R / ld D) y) := fun y =>
        upd_zd (G := f) (H := put f (R.length - D.length) (ld R / ld D)) (by unfold put; rw [if_pos rfl]) (fun y hy => by unfold put; rw [if_neg hy]) y
      have hcast : ((R.length - D.length : Nat) : Int) = (R.length : Int) - (D.length : Int) := by omega
      have hput : ∀ y, y < R.length - D.length → put f (R.length - D.length) (ld R / ld D) y = f y := fun y hy => by unfold put; rw [if_neg (by omega)]
      generalize hR' : psub R (prai (ld R / ld D) (R.length - D.length) D) = R' at *
      generalize hf' : put f (R.length - D.length) (ld R / ld D) = f' at *
      refine len_vd qM ?_
      refine len_vd qM ?_
      refine ar rfl qI ?_
      refine call_fn (pLeadN vr R g1 (by omega)) (Seals.refl _ _) qS ?_
      rintro y1 _ _ ⟨rfl, rfl⟩
      refine call_fn (pLeadN x2 D hDn hD0) (Seals.refl _ _) qS ?_
      rintro y2 _ _ ⟨rfl, rfl⟩
      refine call_fn (zDivModZ y1 y2 _ _ _ _ hlR hlD (by omega) (by omega) hldD) (Seals.refl _ _) qS ?_
      rintro _ _ _ ⟨rfl, y3, y4, rfl, rfl⟩
      refine alloc_rule (d := I false []) fun c hc => ?_
      refine alloc_rule (d := I false []) fun m hm => ?_
      refine store_box (d := zd (ld R / ld D)) 1 rfl hc rfl (by kernel_rfl) ?_ ?_; exact Reads.fact qM
      refine store_box (d := zd (ld R % ld D)) 0 rfl hm rfl (by kernel_rfl) ?_ ?_; exact Reads.fact qM
      refine load_box (d := zd (ld R % ld D)) 0 rfl hm rfl (load_I _ _) fun y5 => ?_
      refine call_fn (zSignZ y5 _ _ hlm (by omega)) (Seals.refl _ _) qS ?_
      rintro _ _ _ ⟨rfl, rfl, rfl⟩
      refine cmp_split _ rfl (fun hne => ?_) (fun hne => ?_)
      · have h11 := hbad hD0 (hnd fun h => hne (by rw [h]; rfl))
        exact fin ⟨_, [], 11, rfl, h11, ⟨_, _, _, rfl⟩, fun x hx => by simp at hx, rfl, rfl⟩ (Seals.trans (Seals.drop 0 _ _) (Seals.trans (Seals.drop 0 _ _) (Seals.trans (Seals.drop 0 _ _) (Seals.trans (Seals.nil _ _) (Seals.own_nil _ _ 2 _)))))
      · have h0 : ld R % ld D = 0 := Int.sign_eq_zero_iff_zero.1 (by omega)
        have hlen := hdg h0
        refine load_box (d := zd (ld R / ld D)) 1 rfl hc rfl (load_I _ _) fun y6 => ?_
        refine index_elem 2 rfl hu (R.length - D.length) (by omega) hsN ?_
        refine StoreK.post (store_elem (d := zd (ld R / ld D)) 2 rfl (R.length - D.length) hsN rfl (by kernel_rfl) (Reads.fact qM) ⟨_, _, Seals.own_cong (os := [_, _, _]) 2 (fun y => zd (f' y)) rfl rfl (fun y _ => hup y), ?_⟩)
        refine load_box (d := zd (ld R / ld D)) 1 rfl hc rfl (load_I _ _) fun y7 => ?_
        have c5' := c5 x2 y7
        rw [hcast] at c5'
        refine call_fn c5' (Seals.refl _ _) qS ?_
        rintro y8 _ _ ⟨rfl, rfl⟩
        refine call_fn (c6 vr y8) (Seals.refl _ _) qS ?_
        rintro y9 _ _ ⟨rfl, rfl⟩
        refine again (y9, R', f', j + 1) ⟨hrn, by simp only; omega, z6, hpf, fun y hy => ?_, hst⟩ (by simp only; omega) qF (Seals.trans (Seals.drop 0 _ _) (Seals.trans (Seals.drop 0 _ _) (Seals.sub qS)))
        simp only at hy ⊢
        rw [hput y (by omega)]
        exact g5 y (by omega)
    · refine len_vd qM ?_
      refine cmp_split _ rfl (fun hp0 => ?_) (fun hp0 => ?_)
      · have h11 := hbad hD0 fun hd => by
          have := (div_no g6 hd).deg (by omega)
          omega
        exact fin ⟨_, [], 11, rfl, h11, ⟨_, _, _, rfl⟩, fun x hx => by simp at hx, rfl, rfl⟩ (Seals.trans (Seals.drop 0 _ _) (Seals.trans (Seals.nil _ _) (Seals.own_nil _ _ 2 _)))
      · have hR0 : R = [] := List.length_eq_zero_iff.1 (by omega)
        have hok := hgood (lst N f) hD0 fun x => by
          have := g6 x
          rw [hR0] at this
          simp only [pev] at this; omega
        have hsl : szR E (lst N f) := szR.lst fun y _ => g4 y
        have hn := pNormO_meets u ((lst N f).map cn) (hsl.mono hk).fit (by rw [List.length_map, lst_len]; omega)
        rw [vv_cn] at hn
        refine call_fn hn (Seals.told (g := f) hu fun y _ => rfl) qS ?_
        rintro r _ _ ⟨hr, rfl, rfl⟩
        exact fin ⟨r, _, 0, rfl, hok, hr, hsl.nrm, rfl, rfl⟩ (Seals.sub qS)
open Go.RowKit
theorem pDivide_meets (v w : Value) (p q : Row) (k l : Nat) (hp : Fit k p) (hq : Fit l q) (hk : k + (p.length + 1) * (l + 1) ≤ 137438953472) (lp : p.length ≤ 536870912) (lq : q.length ≤ 536870912) :
    Meets Tryz.prog 102 [v, w] [(v, V p), (w, V q)] (fun r os fs => os = [] ∧ ∃ a t e, r = .tuple #[a, .int .i64 e] ∧ DivSpec (vv p) (vv q) t e ∧ szR (k + (p.length + 1) * (l + 1)) t ∧ fs = [(a, vd t)]) :=
  (pDivideO_meets v w p q k l hp hq hk lp lq).closed fun r os fs ⟨a, t, e, h1, h2, h3, h4, h5, h6⟩ => by
    subst h5 h6
    exact ⟨[], [(a, vd t)], ⟨rfl, a, t, e, h1, h2, h4, rfl⟩, Seals.toldL h3⟩
theorem pDivideT (v w : Value) (p q : List Int) (k l : Nat) (hp : szR k p) (hq : szR l q) (hk : k + (p.length + 1) * (l + 1) ≤ 137438953472) (lp : p.length ≤ 536870912) (lq : q.length ≤ 536870912) :
    Meets Tryz.prog 102 [v, w] [(v, vd p), (w, vd q)] (fun r os fs => os = [] ∧ ∃ a t e, r = .tuple #[a, .int .i64 e] ∧ DivSpec p q t e ∧ szR (k + (p.length + 1) * (l + 1)) t ∧ fs = [(a, vd t)]) := by
  have h := pDivide_meets v w (p.map cn) (q.map cn) k l hp.fit hq.fit (by rw [List.length_map]; exact hk) (by rw [List.length_map]; exact lp) (by rw [List.length_map]; exact lq)
  rw [vv_cn, vv_cn, List.length_map] at h
  exact h
theorem lst_snoc (n : Nat) (f : Nat → Int) : lst (n + 1) f = lst n f ++ [f n] := by
  simp [lst, List.range_succ]
theorem sz_nat {i : Nat} (h : i < 18446744073709551616) : sz (i : Int) 1 := by
  unfold sz; rw [Int.natAbs_natCast]; omega
theorem pDerive_meets (v : Value) (p : Row) (k : Nat) (hp : Fit k p) (hk : k + 1 ≤ 137438953472) (lp : p.length ≤ 536870912) :
    Meets Tryz.prog 67 [v] [(v, V p)] (fun r os fs => os = [] ∧ fs = [(r, vd (pder (vv p)))]) := by
  have n1 := pNorm_meets v p (hp.mono (by omega)) (by omega)
  have sP := hp.szR.nrm
  have la : (nrm (vv p)).length ≤ p.length := Nat.le_trans (nrm_length_le _) (by rw [vv_len]; exact Nat.le_refl _)
  have hpd : pder (vv p) = pder (nrm (vv p)) := (pder_nm _).ext (pder_nm _) (pder_ext fun x => (ev_nrm _ x).symm)
  rw [hpd]
  generalize hA : nrm (vv p) = A at *
  have hg : ∀ i, sz (((i + 1 : Nat) : Int) * A.getD (i + 1) 0) (1 + k) ∨ 18446744073709551615 ≤ i := fun i => by
    by_cases h : i + 1 < 18446744073709551616
    · exact .inl ((sz_nat h).mul (sP.get _))
    · exact .inr (by omega)
  have hszL : szR (k + 1) (lst (A.length - 1) fun i => ((i + 1 : Nat) : Int) * A.getD (i + 1) 0) := szR.lst fun i hi => by
    rcases hg i with h | h
    · rw [Nat.add_comm 1 k] at h; exact h
    · omega
  have hdef : pder A = nrm (lst (A.length - 1) fun i => ((i + 1 : Nat) : Int) * A.getD (i + 1) 0) := rfl
  rw [hdef]
  generalize hG : (fun i => ((i + 1 : Nat) : Int) * A.getD (i + 1) 0) = g at *
  have hgi : ∀ i : Nat, 1 ≤ i → (i : Int) * A.getD i 0 = g (i - 1) := fun i hi => by
    rw [← hG]
    show _ = ((i - 1 + 1 : Nat) : Int) * A.getD (i - 1 + 1) 0
    rw [Nat.sub_add_cancel hi]
  refine meets_of_vc Tryz.func67 (by kernel_rfl) rfl (by kernel_rfl) (Nat.le_of_ble_eq_true rfl) ?_
  refine call_fn n1 (Seals.refl _ _) qS ?_
  rintro x1 _ _ ⟨rfl, rfl⟩
  refine loop_rule (X := Value × Nat) (fun x => ([(3, x1), (4, x.1), (5, .int .i64 (x.2 : Nat))], [ownL 2 J z0 x.1 ((lst (x.2 - 1) g).map cn)], [(x1, vd A)])) (fun x => isSl x.1 ∧ 1 ≤ x.2 ∧ (x.2 ≤ A.length ∨ x.2 = 1)) (fun x => A.length - x.2) rfl ?_ ?_
  · exact again (.slice none 0 0, 1) ⟨⟨_, _, _, rfl⟩, Nat.le_refl _, .inr rfl⟩ trivial qF (Seals.trans (Seals.own_nil _ _ 2 _) (Seals.sub qS))
  · rintro ⟨vo, i⟩ ⟨hvo, h1, h2⟩
    simp only at hvo h1 h2 ⊢
    refine len_vd qM ?_
    refine cmp_split _ rfl (fun hlt => ?_) (fun hlt => ?_)
    · have hin : i < A.length := by omega
      have hai := sP.get i
      have hsi := sz_nat (i := i) (by omega)
      have hgi' := hgi i h1
      have hmul := fun u u' => zMulZ u u' (i : Int) (A.getD i 0) _ _ hsi hai (by omega) (by omega)
      rw [hgi'] at hmul
      have hl : lst (i - 1) g ++ [g (i - 1)] = lst (i + 1 - 1) g := by
        rw [← lst_snoc]; congr 1; omega
      have hll : (lst (i - 1) g).length = i - 1 := lst_len _ _
      refine draw_rule [0, 1, 3, 4, 5, 6, 2, 7, 8, 9, 10] [0, 1, 2, 3, 4, 5, 6, 7, 8, 9, 10] (by kernel_rfl) (by kernel_rfl) ?_
      refine index_vd qM i rfl hin fun b1 => ?_
      refine load_fact (d := zd (A.getD i 0)) qM (load_I _ _) fun y1 => ?_
      refine call_fn (zof_meets (i : Int) (by omega) (by omega)) (Seals.refl _ _) qS ?_
      rintro y2 _ _ ⟨rfl, rfl⟩
      refine call_fn (hmul y2 y1) (Seals.refl _ _) qS ?_
      rintro y3 _ _ ⟨rfl, rfl⟩
      refine lit_L (size := 2) (f := J) (z := z0) (e := 26) (cn (g (i - 1))) (by decide) (Reads.fact qM) rfl fun y4 => ?_
      refine append_L (size := 2) (e := 26) (f := J) (z := z0) (l := (lst (i - 1) g).map cn) (m := [cn (g (i - 1))]) 0 rfl hvo (Knw.fact qM) (by simp only [List.length_map, hll, List.length_cons, List.length_nil]; omega) (by simp only [List.length_map, hll, List.length_cons, List.length_nil]; omega) fun vn hvn => ?_
      refine ar rfl qI ?_
      refine again (vn, i + 1) ⟨hvn, by simp only; omega, .inl (by simp only; omega)⟩ (by simp only; omega) qF ?_
      rw [show (lst (i - 1) g).map cn ++ [cn (g (i - 1))] = (lst (i + 1 - 1) g).map cn by rw [← hl, List.map_append]; rfl]
      exact Seals.sub qS
    · have hii : lst (i - 1) g = lst (A.length - 1) g := by congr 1; omega
      rw [hii]
      refine call_fn (pNormT vo (lst (A.length - 1) g) (hszL.mono (by omega)) (by rw [lst_len]; omega)) (Seals.toldL hvo) qS ?_
      rintro r _ _ ⟨rfl, rfl⟩
      exact fin ⟨rfl, rfl⟩ (Seals.sub qS)
theorem pDeriveT (v : Value) (p : List Int) (k : Nat) (hp : szR k p) (hk : k + 1 ≤ 137438953472) (lp : p.length ≤ 536870912) :
    Meets Tryz.prog 67 [v] [(v, vd p)] (fun r os fs => os = [] ∧ fs = [(r, vd (pder p))]) := by
  have h := pDerive_meets v (p.map cn) k hp.fit hk (by rw [List.length_map]; exact lp)
  rw [vv_cn] at h
  exact h
open Go.RowKit
def pstr (c : Int) (l : List Int) : List Int := nrm (lst (nrm l).length fun y => (nrm l).getD y 0 * c ^ y)
theorem pstr_nm (c : Int) (l : List Int) : Nm (pstr c l) := nrm_nrm _
theorem ev_pstr (c : Int) (l : List Int) (x : Int) : pev (pstr c l) x = pev l (c * x) := by
  rw [pstr, ev_nrm, ev_isum, ← ev_nrm l, ev_isum (nrm l), lst_len]
  refine isum_congr fun i hi => ?_
  rw [lst_get hi, Int.mul_pow, Int.mul_assoc]
theorem sz_pow {c : Int} {a : Nat} (h : sz c a) : ∀ n : Nat, sz (c ^ n) (n * a + 1)
  | 0 => by rw [Int.pow_zero, Nat.zero_mul]; exact sz_one 1 (by decide)
  | n + 1 => by
    rw [Int.pow_succ]
    have := (sz_pow h n).mul h
    refine this.mono ?_
    rw [Nat.succ_mul]; omega
open Go.RowKit
theorem pGcdNT (v w : Value) (p q : List Int) (k n : Nat) (hp : szR k p) (hq : szR k q) (h1k : 1 ≤ k) (lp : p.length ≤ n) (lq : q.length ≤ n) (hn : n ≤ 536870912) (hk : ge k (n - 1) n + k ≤ 137438953472) :
    Meets Tryz.prog 103 [v, w] [(v, vd p), (w, vd q)] (fun r os fs => os = [] ∧ ∃ G, Nm G ∧ Gc G p q ∧ fs = [(r, vd G)]) := by
  have h := pGcdN_meets v w (p.map cn) (q.map cn) k n hp.fit hq.fit h1k (by rw [List.length_map]; exact lp) (by rw [List.length_map]; exact lq) hn hk
  rw [vv_cn, vv_cn] at h
  exact h
structure SimSpec (p s : List Int) : Prop where
  sn : Nm s
  zero : dg p = 0 → s = []
  ok : 0 < dg p → ∃ g, Gc g (pprim p) (pder (pprim p)) ∧ ∀ x, pev (pprim p) x = pev g x * pev s x
theorem SimSpec.unique {p s s' : List Int} (h : SimSpec p s) (h' : SimSpec p s') : s = s' := by
  by_cases h0 : dg p = 0
  · rw [h.zero h0, h'.zero h0]
  · obtain ⟨g, h1, h2⟩ := h.ok (by omega)
    obtain ⟨g', h3, h4⟩ := h'.ok (by omega)
    have hg : 0 < dg g := (h1.1.deg (by rw [pprim_dg]; omega)).1
    exact h.sn.ext h'.sn (cancel hg fun x => by rw [← h2, h4, h1.unique h3])
theorem szR.pder {k : Nat} {l : List Int} (h : szR k l) (hl : l.length ≤ 4294967296) : szR (k + 1) (pder l) := szR.nrm (szR.lst fun i hi => by
  have := (sz_nat (i := i + 1) (by omega)).mul (h.get (i + 1))
  rw [Nat.add_comm 1 k] at this; exact this)
theorem pder_len (l : List Int) : (pder l).length ≤ l.length := Nat.le_trans (nrm_length_le _) (by rw [lst_len]; omega)
theorem pSimpleN_meets (v : Value) (p : Row) (k n : Nat) (hp : Fit k p) (lp : p.length ≤ n) (hn : n ≤ 268435456) (hk : ge (k + 1) (n - 1) n + (k + 1) ≤ 137438953472) (hd : k + (n + 1) * (dvk (k + 1) n + 1) ≤ 137438953472) :
    Meets Tryz.prog 66 [v] [(v, V p)] (fun r os fs => os = [] ∧ ∃ s, SimSpec (vv p) s ∧ szR (dvk k n) s ∧ fs = [(r, vd s)]) := by
  have hge : k + 2 ≤ ge (k + 1) (n - 1) n := by
    unfold ge
    exact Nat.le_mul_of_pos_right _ (Nat.mul_pos (Nat.pow_pos (by decide)) (Nat.pow_pos (by decide)))
  have h1 := pPrimitive_meets v p k hp (by omega) (by omega)
  have sU := hp.szR.pprim
  have lU : (pprim (vv p)).length ≤ n := Nat.le_trans (pprim_len _) (Nat.le_trans (dg_le_len _) (by rw [vv_len]; exact lp))
  have nU := pprim_nm (vv p)
  have dU := pprim_dg (vv p)
  have hspec : ∀ s g, Nm s → 0 < dg (vv p) → Gc g (pprim (vv p)) (pder (pprim (vv p))) → (∀ x, pev (pprim (vv p)) x = pev g x * pev s x) → SimSpec (vv p) s := fun s g a1 a2 a3 a4 => ⟨a1, fun h => by omega, fun _ => ⟨g, a3, a4⟩⟩
  have hzero : dg (vv p) = 0 → SimSpec (vv p) [] := fun h => ⟨rfl, fun _ => rfl, fun h' => by omega⟩
  rw [dg_nm nU] at dU
  generalize hU : pprim (vv p) = u at *
  have sD := sU.pder (by omega)
  have lD := pder_len u
  refine meets_of_vc Tryz.func66 (by kernel_rfl) rfl (by kernel_rfl) (Nat.le_of_ble_eq_true rfl) ?_
  refine call_fn h1 (Seals.refl _ _) qS ?_
  rintro x1 _ _ ⟨rfl, rfl⟩
  refine len_vd qM ?_
  refine cmp_split _ rfl (fun hz => ?_) (fun hz => ?_)
  · exact fin ⟨rfl, [], hzero (by omega), fun x hx => by simp at hx, rfl⟩ (Seals.cons (Knw.nil 2 _) (Seals.nil _ _))
  · have hu0 : 0 < dg u := by rw [dg_nm nU]; omega
    refine call_fn (pDeriveT x1 u k sU (by omega) (by omega)) (Seals.refl _ _) qS ?_
    rintro x2 _ _ ⟨rfl, rfl⟩
    refine call_fn (pGcdNT x1 x2 u (pder u) (k + 1) n (sU.mono (by omega)) sD (by omega) lU (by omega) (by omega) hk) (Seals.refl _ _) qS ?_
    rintro x3 _ _ ⟨rfl, G, nG, gG, rfl⟩
    have hGd := gG.1.deg hu0
    have sG : szR (dvk (k + 1) n) G := dv_szR gG.1 hu0 (sU.mono (by omega)) nG (by rw [dg_nm nU]; exact lU) (by omega)
    have lG : G.length ≤ n := by rw [← dg_nm nG]; rw [dg_nm nU] at hGd; omega
    have hdd : k + (u.length + 1) * (dvk (k + 1) n + 1) ≤ 137438953472 := by
      have : (u.length + 1) * (dvk (k + 1) n + 1) ≤ (n + 1) * (dvk (k + 1) n + 1) := Nat.mul_le_mul_right _ (by omega)
      omega
    refine call_fn (pDivideT x1 x3 u G k _ sU sG hdd (by omega) (by omega)) (Seals.refl _ _) qS ?_
    rintro _ _ _ ⟨rfl, a, t, e, rfl, hsp, _, rfl⟩
    obtain ⟨_, ht⟩ := hsp.ok hGd.1 gG.1
    have hs := hspec t G hsp.tn (by omega) gG ht
    have st : szR (dvk k n) t := dv_szR ⟨G, fun x => by rw [ht, Int.mul_comm]⟩ hu0 sU hsp.tn (by rw [dg_nm nU]; exact lU) (by omega)
    exact fin ⟨rfl, t, hs, st, rfl⟩ (Seals.sub qS)
end Go.Proofs.YtgpcepcbdpigfaaGreat
namespace Go.Proofs.YtgpcepcbdpigfaaGreat
def chF (ls : List (List Int)) (nx : List Int) (i : Nat) : List Int := (ls ++ [nx]).getD i []
structure CH (s : List Int) (ls : List (List Int)) (nx : List Int) : Prop where
  len : 1 ≤ ls.length
  hd : chF ls nx 0 = s
  nm : ∀ i, i ≤ ls.length → Nm (chF ls nx i)
  one : chF ls nx 1 = pder s
  pos : ∀ i, i < ls.length → chF ls nx i ≠ []
  low : ∀ i, i < ls.length → (chF ls nx (i + 1)).length < (chF ls nx i).length
  rel : ∀ i, i + 1 < ls.length → ∃ α β q, 0 < α ∧ 0 < β ∧ ∀ x, α * pev (chF ls nx i) x = pev q x * pev (chF ls nx (i + 1)) x - β * pev (chF ls nx (i + 2)) x
theorem chF_lt {ls : List (List Int)} {nx : List Int} {i : Nat} (h : i < ls.length) : chF ls nx i = ls.getD i [] := by
  unfold chF
  rw [List.getD_eq_getElem?_getD, List.getElem?_append_left h, ← List.getD_eq_getElem?_getD]
theorem chF_last (ls : List (List Int)) (nx : List Int) : chF ls nx ls.length = nx := by
  unfold chF
  rw [List.getD_eq_getElem?_getD, List.getElem?_append_right (Nat.le_refl _), Nat.sub_self]; rfl
theorem chF_snoc {ls : List (List Int)} {nx ny : List Int} {i : Nat} (h : i ≤ ls.length) : chF (ls ++ [nx]) ny i = chF ls nx i := by
  rw [chF_lt (by simp; omega)]; rfl
def nxt (a b R : List Int) : List Int := if (dg a + 1 - dg b) % 2 = 0 ∨ 0 < ld b then ptim (-1) R else R
def redc (l : List Int) : List Int := l.map fun y => y / (cont l : Int)
theorem redc_ev (l : List Int) (x : Int) : pev l x = (cont l : Int) * pev (redc l) x := by
  have h : ∀ i, l.getD i 0 = ((redc l).map fun y => (cont l : Int) * y).getD i 0 := fun i => by
    rw [co_map]
    unfold redc
    have hd := dvd_cont.1 (Nat.dvd_refl (cont l)) i
    by_cases hi : i < l.length
    · have e : (l.map fun y => y / (cont l : Int)).getD i 0 = l.getD i 0 / (cont l : Int) := by simp [List.getD_eq_getElem?_getD, hi]
      rw [e, Int.mul_ediv_cancel' hd]
    · have e1 : l.getD i 0 = 0 := by rw [List.getD_eq_getElem?_getD, List.getElem?_eq_none (by omega)]; rfl
      have e2 : (l.map fun y => y / (cont l : Int)).getD i 0 = 0 := by rw [List.getD_eq_getElem?_getD, List.getElem?_eq_none (by rw [List.length_map]; omega)]; rfl
      rw [e1, e2, Int.mul_zero]
  rw [ev_co h, ev_map_mul]
theorem redc_len (l : List Int) : (redc l).length = l.length := by unfold redc; simp
theorem nm_last {l : List Int} : Nm l ↔ (l ≠ [] → l.getD (l.length - 1) 0 ≠ 0) := by
  constructor
  · intro h h0 e
    have h1 : 0 < dg l := by rw [dg_nm h]; exact List.length_pos_iff.2 h0
    have h2 := ld_ne h1
    unfold ld at h2
    rw [dg_nm h] at h2
    exact h2 e
  · intro h
    by_cases h0 : l = []
    · rw [h0]; rfl
    · have h1 : l.length ≤ dg l := Nat.le_of_not_lt fun hlt => by
        have hpos := List.length_pos_iff.2 h0
        exact h h0 (dg_le.1 (show dg l ≤ l.length - 1 by omega) _ (Nat.le_refl _))
      have h2 := dg_le_len l
      show nrm l = l
      refine List.ext_getElem? fun i => ?_
      have hl : (nrm l).length = l.length := by have : dg l = (nrm l).length := rfl; omega
      by_cases hi : i < l.length
      · have := co_nrm l i
        rw [List.getD_eq_getElem?_getD, List.getD_eq_getElem?_getD, List.getElem?_eq_getElem hi, List.getElem?_eq_getElem (by omega)] at this
        rw [List.getElem?_eq_getElem hi, List.getElem?_eq_getElem (by omega)]
        simpa using this
      · rw [List.getElem?_eq_none (by omega), List.getElem?_eq_none (by omega)]
theorem redc_nm {l : List Int} (h : Nm l) : Nm (redc l) := by
  refine nm_last.2 fun h0 e => ?_
  have h1 : l ≠ [] := fun e => h0 (by rw [e]; rfl)
  have h2 := nm_last.1 h h1
  have hpos := List.length_pos_iff.2 h1
  have e1 : (redc l).getD ((redc l).length - 1) 0 = l.getD (l.length - 1) 0 / (cont l : Int) := by
    rw [redc_len]
    unfold redc
    simp [List.getD_eq_getElem?_getD, show l.length - 1 < l.length by omega]
  rw [e1] at e
  have hd := dvd_cont.1 (Nat.dvd_refl (cont l)) (l.length - 1)
  have := Int.mul_ediv_cancel' hd
  rw [e, Int.mul_zero] at this
  exact h2 this.symm
theorem nxt_rel {a b T R : List Int} (hb : 0 < dg b) (h : RestSpec a b T R) :
    ∃ α β q, 0 < α ∧ 0 < β ∧ ∀ x, α * pev a x = pev q x * pev b x - β * pev (redc (nxt a b R)) x := by
  have hl := ld_ne hb
  have e1 : ∀ y : List Int, (R = [] → y = []) → ∀ x, pev y x = (if R = [] then 1 else (cont y : Int)) * pev (redc y) x := fun y hy x => by
    by_cases h0 : R = []
    · rw [if_pos h0, hy h0]; simp [redc, pev]
    · rw [if_neg h0, redc_ev]
  have hn0 : R = [] → nxt a b R = [] := fun e => by
    unfold nxt; rw [e]; split <;> rfl
  have hcp : R ≠ [] → 0 < (cont (nxt a b R) : Int) := fun h0 => by
    have h1 : 0 < dg R := by rw [dg_nm h.rn]; exact List.length_pos_iff.2 h0
    have h2 : cont (nxt a b R) = cont R := by
      unfold nxt; split
      · rw [cont_mul (c := -1) (l := R) fun x => by rw [ev_ptim]]; simp
      · rfl
    have h3 : cont R ≠ 0 := fun e => by have := cont_zero.1 e; omega
    rw [h2]; omega
  have hβ : 0 < (if R = [] then 1 else (cont (nxt a b R) : Int)) := by
    split
    · decide
    · rename_i h0; exact hcp h0
  generalize hd : dg a + 1 - dg b = d at *
  have hpow : ((d % 2 = 0 ∨ 0 < ld b) → 0 < ld b ^ d) ∧ (¬ (d % 2 = 0 ∨ 0 < ld b) → 0 < -(ld b ^ d)) := by
    constructor
    · rintro (h1 | h1)
      · obtain ⟨e, he⟩ : ∃ e, d = 2 * e := ⟨d / 2, by omega⟩
        rw [he, Int.pow_mul]
        refine Int.pow_pos ?_
        rw [show (2 : Nat) = 1 + 1 from rfl, Int.pow_succ, Int.pow_succ, Int.pow_zero, Int.one_mul]
        rcases Int.lt_trichotomy (ld b) 0 with k | k | k
        · exact Int.mul_pos_of_neg_of_neg k k
        · exact absurd k hl
        · exact Int.mul_pos k k
      · exact Int.pow_pos h1
    · intro h1
      obtain ⟨e, he⟩ : ∃ e, d = 2 * e + 1 := ⟨d / 2, by omega⟩
      have h2 : ld b < 0 := by omega
      have h3 : 0 < ld b ^ (2 * e) := by
        rw [Int.pow_mul]
        refine Int.pow_pos ?_
        rw [show (2 : Nat) = 1 + 1 from rfl, Int.pow_succ, Int.pow_succ, Int.pow_zero, Int.one_mul]
        exact Int.mul_pos_of_neg_of_neg h2 h2
      rw [he, Int.pow_succ]
      have := Int.mul_neg_of_pos_of_neg h3 h2
      omega
  have heq := h.eq
  rw [hd] at heq
  by_cases hc : d % 2 = 0 ∨ 0 < ld b
  · have en : nxt a b R = ptim (-1) R := by unfold nxt; rw [hd, if_pos hc]
    refine ⟨ld b ^ d, _, T, hpow.1 hc, hβ, fun x => ?_⟩
    rw [← e1 _ hn0 x, en, ev_ptim, heq]
    grind
  · have en : nxt a b R = R := by unfold nxt; rw [hd, if_neg hc]
    refine ⟨-(ld b ^ d), _, ptim (-1) T, hpow.2 hc, hβ, fun x => ?_⟩
    rw [← e1 _ hn0 x, en, ev_ptim]
    have := heq x
    grind
theorem nxt_nm {a b R : List Int} (h : Nm R) : Nm (nxt a b R) := by
  unfold nxt; split
  · exact nrm_nrm _
  · exact h
theorem nxt_dg (a b R : List Int) : dg (nxt a b R) = dg R := by
  unfold nxt; split
  · by_cases h0 : dg R = 0
    · rw [h0]; exact dg_zero.2 fun x => by rw [ev_ptim, dg_zero.1 h0]; rfl
    · have e : ∀ x, pev (ptim (-1) R) x = pev R x * pev [-1] x := fun x => by rw [ev_ptim]; simp [pev]
      have := (mul_dg e (by omega) (by decide)).1
      rw [show dg [-1] = 1 from rfl] at this; omega
  · rfl
theorem CH.start {s : List Int} (hs : Nm s) (h0 : s ≠ []) : CH s [s] (pder s) := by
  have e0 : chF [s] (pder s) 0 = s := rfl
  have e1 : chF [s] (pder s) 1 = pder s := rfl
  refine ⟨Nat.le_refl _, rfl, fun i hi => ?_, rfl, fun i hi => ?_, fun i hi => ?_, fun i hi => absurd hi (by simp)⟩
  · have hi' : i ≤ 1 := hi
    have : i = 0 ∨ i = 1 := by omega
    rcases this with rfl | rfl
    · exact hs
    · exact pder_nm s
  · have hi' : i < 1 := hi
    obtain rfl : i = 0 := by omega
    exact h0
  · have hi' : i < 1 := hi
    obtain rfl : i = 0 := by omega
    rw [e0, e1]
    have hp := List.length_pos_iff.2 h0
    have h1 := dg_nm hs
    have h2 : dg (pder s) = (pder s).length := dg_nm (pder_nm s)
    by_cases h : 2 ≤ dg s
    · have := pder_dg h; omega
    · have := dg_zero.2 (pder_low (l := s) (by omega)); omega
theorem CH.step {s : List Int} {ls : List (List Int)} {nx T R : List Int} (h : CH s ls nx) (h0 : nx ≠ []) (hR : RestSpec (chF ls nx (ls.length - 1)) nx T R) :
    CH s (ls ++ [nx]) (redc (nxt (chF ls nx (ls.length - 1)) nx R)) := by
  have hl := h.len
  have hnx := h.nm ls.length (Nat.le_refl _)
  rw [chF_last] at hnx
  have hlen : (ls ++ [nx]).length = ls.length + 1 := by simp
  have el : ∀ y, chF (ls ++ [nx]) y (ls.length + 1) = y := fun y => by have := chF_last (ls ++ [nx]) y; rw [hlen] at this; exact this
  have es : ∀ y i, i ≤ ls.length → chF (ls ++ [nx]) y i = chF ls nx i := fun y i hi => chF_snoc hi
  have hdn : 0 < dg nx := by rw [dg_nm hnx]; exact List.length_pos_iff.2 h0
  refine ⟨by omega, by rw [es _ _ (Nat.zero_le _)]; exact h.hd, fun i hi => ?_, by rw [es _ _ hl]; exact h.one, fun i hi => ?_, fun i hi => ?_, fun i hi => ?_⟩
  · by_cases e : i = ls.length + 1
    · rw [e, el]; exact redc_nm (nxt_nm hR.rn)
    · rw [es _ _ (by omega)]; exact h.nm i (by omega)
  · by_cases e : i = ls.length
    · rw [e, es _ _ (Nat.le_refl _), chF_last]; exact h0
    · rw [es _ _ (by omega)]; exact h.pos i (by omega)
  · by_cases e : i = ls.length
    · rw [e, el, es _ _ (Nat.le_refl _), chF_last, redc_len, ← dg_nm (nxt_nm hR.rn), nxt_dg, ← dg_nm hnx]
      exact hR.low
    · rw [es _ _ (by omega), es _ _ (by omega)]; exact h.low i (by omega)
  · by_cases e : i + 1 = ls.length
    · have e2 : i = ls.length - 1 := by omega
      rw [show i + 2 = ls.length + 1 by omega, el, es _ (i + 1) (by omega), e, chF_last, es _ i (by omega), e2]
      exact nxt_rel hdn hR
    · rw [es _ _ (by omega), es _ _ (by omega), es _ _ (by omega)]
      exact h.rel i (by omega)
theorem CH.short {s : List Int} {ls : List (List Int)} {nx : List Int} (h : CH s ls nx) : ∀ i, i ≤ ls.length → (chF ls nx i).length + i ≤ s.length
  | 0, _ => by rw [h.hd]; omega
  | i + 1, hi => by
    have := CH.short h i (by omega)
    have := h.low i (by omega)
    omega
theorem CH.chain {p s : List Int} {ls : List (List Int)} (hp : 0 < dg p) (hs : SimSpec p s) (h : CH s ls []) : Chain (fun i => ls.getD i []) (ls.length - 1) ∧ ls.length ≤ dg s ∧ ls.getD 0 [] = s := by
  have hl := h.len
  have hF : ∀ i, i < ls.length → ls.getD i [] = chF ls [] i := fun i hi => (chF_lt hi).symm
  have hlast := chF_last ls []
  have hr := h.pos (ls.length - 1) (by omega)
  have hrn := h.nm (ls.length - 1) (by omega)
  have hdl : 0 < dg (chF ls [] (ls.length - 1)) := by rw [dg_nm hrn]; exact List.length_pos_iff.2 hr
  have hz : ∀ e, e ≤ ls.length - 1 → Dv (pprim (chF ls [] (ls.length - 1))) (chF ls [] (ls.length - 1 - e)) ∧ Dv (pprim (chF ls [] (ls.length - 1))) (chF ls [] (ls.length - 1 - e + 1)) := fun e => by
    induction e with
    | zero =>
      intro _
      refine ⟨⟨[scont (chF ls [] (ls.length - 1))], fun x => ?_⟩, ?_⟩
      · rw [Nat.sub_zero, pprim_ev]; simp only [pev]; grind
      · rw [Nat.sub_zero, show ls.length - 1 + 1 = ls.length by omega, hlast]
        exact Dv.zero _ fun _ => rfl
    | succ e ih =>
      intro he
      obtain ⟨i1, i2⟩ := ih (by omega)
      obtain ⟨i, hi⟩ : ∃ i, ls.length - 1 - e = i + 1 := ⟨ls.length - 1 - e - 1, by omega⟩
      have e2 : ls.length - 1 - (e + 1) = i := by omega
      rw [hi] at i1 i2
      rw [e2]
      refine ⟨?_, i1⟩
      obtain ⟨α, β, q, hα, hβ, hr⟩ := h.rel i (by omega)
      refine Dv.prim (pprim_cont hdl) (show α ≠ 0 by omega) ?_
      obtain ⟨u, hu⟩ := i1
      obtain ⟨v, hv⟩ := i2
      refine ⟨psub (pmul q u) (ptim β v), fun x => ?_⟩
      rw [ev_map_mul, hr, hu, hv, ev_psub, ev_pmul, ev_ptim]
      grind
  have hz0 := hz (ls.length - 1) (Nat.le_refl _)
  rw [Nat.sub_self, h.hd, Nat.zero_add, h.one] at hz0
  obtain ⟨g, hg, hgs⟩ := hs.ok hp
  obtain ⟨d, hd⟩ := gc_exists s (pder s)
  have hd1 := simple_free (by rw [pprim_dg]; exact hp) (pprim_cont hp) hg hgs hd
  have hzd := hd.2.2.1 _ hz0.1 hz0.2
  have hz1 := hzd.deg (by omega)
  rw [pprim_dg] at hz1
  have hone : (chF ls [] (ls.length - 1)).length = 1 := by rw [← dg_nm hrn]; omega
  refine ⟨⟨fun h1 => ?_, fun i hi => ?_, ?_⟩, ?_, ?_⟩
  · show ls.getD 1 [] = pder (ls.getD 0 [])
    rw [hF 1 (by omega), hF 0 (by omega), h.hd]; exact h.one
  · show ∃ α β q, 0 < α ∧ 0 < β ∧ ∀ x, α * pev (ls.getD i []) x = pev q x * pev (ls.getD (i + 1) []) x - β * pev (ls.getD (i + 2) []) x
    rw [hF i (by omega), hF (i + 1) (by omega), hF (i + 2) (by omega)]
    exact h.rel i (by omega)
  · show ∃ k, k ≠ 0 ∧ ls.getD (ls.length - 1) [] = [k]
    rw [hF _ (by omega)]
    have hn := nm_last.1 hrn hr
    obtain ⟨k, hk⟩ := List.length_eq_one_iff.1 hone
    rw [hk] at hn ⊢
    exact ⟨k, hn, rfl⟩
  · have := h.short (ls.length - 1) (by omega)
    rw [dg_nm hs.sn]
    omega
  · rw [hF 0 (by omega)]; exact h.hd
theorem Chain.same {L L' : Nat → List Int} {r r' : Nat} (h : Chain L r) (h' : Chain L' r') (e : L 0 = L' 0) {a b : Int} (hab : a ≤ b) :
    (sV L r a : Int) - sV L r b = sV L' r' a - sV L' r' b := by
  obtain ⟨d, hd⟩ : ∃ d : Nat, b = a + d := ⟨(b - a).toNat, by omega⟩
  obtain ⟨W, _, hW⟩ := h.sturm (a.natAbs + d)
  obtain ⟨W', _, hW'⟩ := h'.sturm (a.natAbs + d)
  have h1 := (hW (max W W') (by omega)).1 a d (Nat.le_refl _)
  have h2 := (hW' (max W W') (by omega)).1 a d (Nat.le_refl _)
  rw [hd, h1, h2, e]
  omega
noncomputable def rc (s : List Int) (a b : Int) : Int := Classical.epsilon fun n => ∃ L r, Chain L r ∧ L 0 = s ∧ n = (sV L r a : Int) - sV L r b
theorem rc_eq {s : List Int} {L : Nat → List Int} {r : Nat} (h : Chain L r) (e : L 0 = s) {a b : Int} (hab : a ≤ b) : rc s a b = (sV L r a : Int) - sV L r b := by
  obtain ⟨L', r', h', e', hn⟩ : ∃ L' r', Chain L' r' ∧ L' 0 = s ∧ rc s a b = (sV L' r' a : Int) - sV L' r' b :=
    Classical.epsilon_spec (p := fun n => ∃ L r, Chain L r ∧ L 0 = s ∧ n = (sV L r a : Int) - sV L r b) ⟨_, L, r, h, e, rfl⟩
  rw [hn]
  exact h'.same h (by rw [e', e]) hab
theorem vs_len : ∀ (l : List Int) (t : Int), vs t l ≤ l.length
  | [], _ => Nat.le_refl _
  | x :: l, t => by
    have h1 := vs_len l t
    have h2 := vs_len l x
    simp only [vs, List.length_cons]
    split
    · omega
    · split <;> omega
theorem vs_len0 : ∀ (l : List Int), vs 0 l ≤ l.length - 1
  | [] => Nat.le_refl _
  | x :: l => by
    have h1 := vs_len0 l
    have h2 := vs_len l x
    simp only [vs, List.length_cons, Int.mul_zero, Int.lt_irrefl, if_false]
    split <;> omega
theorem vx_len (L : Nat → List Int) (x : Int) : ∀ (e i : Nat), (vx L x i e).length = e
  | 0, _ => rfl
  | e + 1, i => by simp only [vx, List.length_cons, vx_len L x e (i + 1)]
theorem sV_le (L : Nat → List Int) (r : Nat) (x : Int) : sV L r x ≤ r := by
  have := vs_len0 (vx L x 0 (r + 1))
  rw [vx_len] at this
  exact this
open Go.RowKit
def pshi (a : Int) : List Int → List Int
  | [] => []
  | c :: l => padd [c] (pmul [a, 1] (pshi a l))
theorem pshi_nm (a : Int) : ∀ l : List Int, Nm (pshi a l)
  | [] => rfl
  | _ :: _ => padd_nm _ _
theorem ev_pshi (a : Int) : ∀ (l : List Int) (x : Int), pev (pshi a l) x = pev l (x + a)
  | [], x => rfl
  | c :: l, x => by
    rw [pshi, ev_padd, ev_pmul, ev_pshi a l]
    simp only [pev]; grind
theorem ev_lst_snoc (n : Nat) (f : Nat → Int) (x : Int) : pev (lst (n + 1) f) x = pev (lst n f) x + x ^ n * f n := by
  rw [lst_snoc, ev_append, lst_len]; simp [pev]
def ShI (n : Nat) (a : Int) (U : Int → Int) (f : Nat → Int) (i m : Nat) : Prop :=
  ∀ x, U x = pev (lst (m - i) fun y => f (i + y)) x + x ^ (m - i) * (f m + (x - a) * pev (lst (n - 1 - m) fun y => f (m + 1 + y)) x)
def ShO (n : Nat) (a : Int) (P : Int → Int) (f : Nat → Int) (i : Nat) : Prop :=
  ∀ x, P x = pev (lst i f) (x - a) + (x - a) ^ i * pev (lst (n - i) fun y => f (i + y)) x
theorem ShI.start {n i : Nat} {a : Int} {f : Nat → Int} (h : i < n) : ShI n a (fun x => pev (lst (n - i) fun y => f (i + y)) x) f i (n - 1) := fun x => by
  have e : n - i = (n - 1 - i) + 1 := by omega
  have e2 : i + (n - 1 - i) = n - 1 := by omega
  simp only
  rw [e, ev_lst_snoc, e2, show n - 1 - (n - 1) = 0 by omega]
  simp [lst, pev]
theorem ShI.step {n i m : Nat} {a : Int} {U : Int → Int} {f : Nat → Int} (h : ShI n a U f i m) (hm : i < m) (hn : m ≤ n - 1) : ShI n a U (put f (m - 1) (f (m - 1) + a * f m)) i (m - 1) := fun x => by
  rw [h x]
  have e : m - i = (m - 1 - i) + 1 := by omega
  have e2 : i + (m - 1 - i) = m - 1 := by omega
  have e3 : n - 1 - (m - 1) = (n - 1 - m) + 1 := by omega
  have c1 : lst (m - 1 - i) (fun y => put f (m - 1) (f (m - 1) + a * f m) (i + y)) = lst (m - 1 - i) fun y => f (i + y) := lst_congr fun y hy => by unfold put; rw [if_neg (by omega)]
  have c2 : lst (n - 1 - m) (fun y => put f (m - 1) (f (m - 1) + a * f m) (m - 1 + 1 + (y + 1))) = lst (n - 1 - m) fun y => f (m + 1 + y) := lst_congr fun y hy => by unfold put; rw [if_neg (by omega)]; congr 1; omega
  have c3 : put f (m - 1) (f (m - 1) + a * f m) (m - 1 + 1 + 0) = f m := by unfold put; rw [if_neg (by omega)]; congr 1; omega
  have c4 : put f (m - 1) (f (m - 1) + a * f m) (m - 1) = f (m - 1) + a * f m := by unfold put; rw [if_pos rfl]
  rw [e, ev_lst_snoc, e2, e3, ev_lst_succ, c1, c2, c3, c4, Int.pow_succ]
  grind
theorem ShO.next {n i : Nat} {a : Int} {P : Int → Int} {f f' : Nat → Int} (h : ShO n a P f i) (hi : i < n) (hs : ShI n a (fun x => pev (lst (n - i) fun y => f (i + y)) x) f' i i) (hf : ∀ y, y < i → f' y = f y) : ShO n a P f' (i + 1) := fun x => by
  have h1 := hs x
  simp only [Nat.sub_self, Int.pow_zero] at h1
  have c1 : lst i f = lst i f' := lst_congr fun y hy => (hf y hy).symm
  rw [h x, h1, c1, ev_lst_snoc, show n - (i + 1) = n - 1 - i by omega, Int.pow_succ]
  simp only [lst, List.range_zero, List.map_nil, pev]
  grind
open Go.RowKit
theorem cmpN_range (a b : Nat) : -1 ≤ cmpN a b ∧ cmpN a b ≤ 1 ∧ (cmpN a b = 0 ↔ a = b) := by
  unfold cmpN
  split
  · omega
  · split <;> omega
open Go.RowKit
open Go.RowKit
theorem sgn_neg {x : Int} (h : x < 0) : x.sign = -1 := Int.sign_eq_neg_one_of_neg h
theorem sgn_pos {x : Int} (h : 0 < x) : x.sign = 1 := Int.sign_eq_one_of_pos h
theorem cmp_val (x y : Int) : (x.sign < y.sign → (x - y).sign = -1) ∧ (y.sign < x.sign → (x - y).sign = 1) ∧ (x.sign = y.sign → x.sign * cmpN x.natAbs y.natAbs = (x - y).sign) := by
  rcases Int.lt_trichotomy x 0 with hx | hx | hx <;> rcases Int.lt_trichotomy y 0 with hy | hy | hy
  · rw [sgn_neg hx, sgn_neg hy]
    refine ⟨fun h => by omega, fun h => by omega, fun _ => ?_⟩
    unfold cmpN
    by_cases h1 : x.natAbs < y.natAbs
    · rw [if_pos h1, sgn_pos (show 0 < x - y by omega)]; rfl
    · rw [if_neg h1]
      by_cases h2 : y.natAbs < x.natAbs
      · rw [if_pos h2, sgn_neg (show x - y < 0 by omega)]; rfl
      · rw [if_neg h2, show x - y = 0 by omega]; rfl
  · rw [sgn_neg hx, hy]; exact ⟨fun _ => sgn_neg (by omega), fun h => by simp at h, fun h => by simp at h⟩
  · rw [sgn_neg hx, sgn_pos hy]; exact ⟨fun _ => sgn_neg (by omega), fun h => by omega, fun h => by omega⟩
  · rw [hx, sgn_neg hy]; exact ⟨fun h => by simp at h, fun _ => sgn_pos (by omega), fun h => by simp at h⟩
  · rw [hx, hy]; exact ⟨fun h => by omega, fun h => by omega, fun _ => by simp⟩
  · rw [hx, sgn_pos hy]; exact ⟨fun _ => sgn_neg (by omega), fun h => by simp at h, fun h => by simp at h⟩
  · rw [sgn_pos hx, sgn_neg hy]; exact ⟨fun h => by omega, fun _ => sgn_pos (by omega), fun h => by omega⟩
  · rw [sgn_pos hx, hy]; exact ⟨fun h => by simp at h, fun _ => sgn_pos (by omega), fun h => by simp at h⟩
  · rw [sgn_pos hx, sgn_pos hy]
    refine ⟨fun h => by omega, fun h => by omega, fun _ => ?_⟩
    unfold cmpN
    by_cases h1 : x.natAbs < y.natAbs
    · rw [if_pos h1, sgn_neg (show x - y < 0 by omega)]; rfl
    · rw [if_neg h1]
      by_cases h2 : y.natAbs < x.natAbs
      · rw [if_pos h2, sgn_pos (show 0 < x - y by omega)]; rfl
      · rw [if_neg h2, show x - y = 0 by omega]; rfl
theorem zCmpS (v w : Value) (x y : Bool × List Nat) (ha : Lim x.2) (hb : Lim y.2) (la : x.2.length ≤ 137438953472) (lb : y.2.length ≤ 137438953472) :
    Meets Tryz.prog 26 [v, w] [(v, J x), (w, J y)] (fun r os fs => os = [] ∧ fs = [] ∧ r = .int .i64 (jv x - jv y).sign) := by
  obtain ⟨s, a⟩ := x
  obtain ⟨t, b⟩ := y
  have hc := cmpN_range (nv a) (nv b)
  have hx : (iv s a).natAbs = nv a := iv_abs s a
  have hy : (iv t b).natAbs = nv b := iv_abs t b
  obtain ⟨k1, k2, k3⟩ := cmp_val (iv s a) (iv t b)
  rw [hx, hy] at k3
  have hsg : ∀ x : Int, -1 ≤ x.sign ∧ x.sign ≤ 1 := fun x => by
    rcases Int.lt_trichotomy x 0 with h | h | h
    · rw [Int.sign_eq_neg_one_of_neg h]; omega
    · rw [h]; simp
    · rw [Int.sign_eq_one_of_pos h]; omega
  have h1 := hsg (iv s a)
  have h2 := hsg (iv t b)
  have hp : -1 ≤ (iv s a).sign * cmpN (nv a) (nv b) ∧ (iv s a).sign * cmpN (nv a) (nv b) ≤ 1 := by
    have : (iv s a).sign = -1 ∨ (iv s a).sign = 0 ∨ (iv s a).sign = 1 := by omega
    rcases this with h | h | h <;> rw [h] <;> omega
  show Meets Tryz.prog 26 [v, w] [(v, I s a), (w, I t b)] (fun r os fs => os = [] ∧ fs = [] ∧ r = .int .i64 (iv s a - iv t b).sign)
  refine meets_of_vc Tryz.func26 (by kernel_rfl) rfl (by kernel_rfl) (Nat.le_of_ble_eq_true rfl) ?_
  refine box_rule (Reads.fact (d := I s a) qM) fun p hp' => ?_
  refine box_rule (Reads.fact (d := I t b) qM) fun q hq' => ?_
  refine draw_rule [0, 2, 1, 3, 4, 5] [0, 1, 2, 3, 4, 5] (by kernel_rfl) (by kernel_rfl) ?_
  refine load_box (d := I s a) 1 rfl hp' rfl (load_I _ _) fun y1 => ?_
  refine load_box (d := I t b) 0 rfl hq' rfl (load_I _ _) fun y2 => ?_
  refine call_fn (zsign_meets y1 s a ha la) (Seals.refl _ _) qS ?_
  rintro _ _ _ ⟨rfl, rfl, rfl⟩
  refine call_fn (zsign_meets y2 t b hb lb) (Seals.refl _ _) qS ?_
  rintro _ _ _ ⟨rfl, rfl, rfl⟩
  refine cmp_split _ rfl (fun hlt => ?_) (fun hlt => ?_)
  · rw [k1 hlt]
    exact fin ⟨rfl, rfl, rfl⟩ (Seals.trans (Seals.drop 0 _ _) (Seals.trans (Seals.drop 0 _ _) (Seals.nil _ _)))
  · refine cmp_split _ rfl (fun hgt => ?_) (fun hgt => ?_)
    · rw [k2 (by omega)]
      exact fin ⟨rfl, rfl, rfl⟩ (Seals.trans (Seals.drop 0 _ _) (Seals.trans (Seals.drop 0 _ _) (Seals.nil _ _)))
    · rw [← k3 (by omega)]
      refine field_box 1 rfl hp' ?_
      refine load_box_field 1 rfl (Part.right (Part.refl _)) (load_L _) fun u1 => ?_
      refine field_box 0 rfl hq' ?_
      refine load_box_field 0 rfl (Part.right (Part.refl _)) (load_L _) fun u2 => ?_
      refine call_fn (cmp_meets u1 u2 a b ha hb) (Seals.refl _ _) qS ?_
      rintro _ _ _ ⟨rfl, rfl, rfl⟩
      refine ar rfl qI ?_
      exact fin ⟨rfl, rfl, rfl⟩ (Seals.trans (Seals.drop 0 _ _) (Seals.trans (Seals.drop 0 _ _) (Seals.nil _ _)))
theorem zShr1 (v : Value) (s : Bool) (a : List Nat) (ha : Lim a) (la : a.length ≤ 137438953472) :
    Meets Tryz.prog 49 [v, .int .i64 1] [(v, I s a)] (fun r os fs => os = [] ∧ fs = [(r, zd (iv s a / 2))]) := by
  have hf : far 1 = 1 := by decide
  have h1 := fun u => shr_meets u a 1 ha (by omega)
  rw [hf] at h1
  have hll : (lims (nv a / 2 ^ 1)).length ≤ a.length := by
    refine lims_length_le ?_
    exact Nat.lt_of_le_of_lt (Nat.div_le_self _ _) (nv_lt ha)
  have h2 := fun u => shl_meets u (lims (nv a / 2 ^ 1)) 1 (Lim_lims _) (by omega)
  rw [hf, nv_lims] at h2
  have hll2 : (lims (nv a / 2 ^ 1 * 2 ^ 1)).length ≤ a.length := by
    refine lims_length_le ?_
    exact Nat.lt_of_le_of_lt (Nat.div_mul_le_self _ _) (nv_lt ha)
  have h3 := fun u u' => cmp_meets u u' (lims (nv a / 2 ^ 1 * 2 ^ 1)) a (Lim_lims _) ha
  rw [nv_lims] at h3
  have hc := cmpN_range (nv a / 2 ^ 1 * 2 ^ 1) (nv a)
  have h4 := fun u u' => add_meets u u' (lims (nv a / 2 ^ 1)) [1] (Lim_lims _) (fun x hx => by rw [List.mem_singleton.1 hx]; decide) (by omega) (by decide)
  rw [nv_lims, show nv [1] = 1 from rfl] at h4
  rw [Nat.pow_one] at *
  refine meets_of_vc Tryz.func49 (by kernel_rfl) rfl (by kernel_rfl) (Nat.le_of_ble_eq_true rfl) ?_
  refine box_rule (Reads.fact (d := I s a) qM) fun p hp => ?_
  refine alloc_rule (d := I false []) fun o ho => ?_
  refine field_box 1 rfl hp ?_
  refine load_box_field 1 rfl (Part.right (Part.refl _)) (load_L _) fun u1 => ?_
  refine call_fn (h1 u1) (Seals.refl _ _) qS ?_
  rintro m1 _ _ ⟨rfl, rfl⟩
  refine draw_rule [0, 1, 2, 3, 4, 6, 7, 5, 8, 9, 10] [0, 1, 2, 3, 4, 5, 6, 7, 8, 9, 10] (by kernel_rfl) (by kernel_rfl) ?_
  refine field_box 1 rfl hp ?_
  refine load_box_field_one 1 rfl (Part.left (Part.refl _)) ?_
  cases s with
  | false =>
    refine field_box 1 rfl hp ?_
    refine load_box_field_one 1 rfl (Part.left (Part.refl _)) ?_
    refine call_fn (made_of m1 false (nv a / 2) (iv false a / 2) (by simp [iv])) (Seals.refl _ _) qS ?_
    rintro z _ _ ⟨rfl, rfl⟩
    refine store_box (d := zd (iv false a / 2)) 0 rfl ho rfl (by kernel_rfl) (Reads.fact (v := z) qM) ?_
    refine load_box (d := zd (iv false a / 2)) 0 rfl ho rfl (load_I _ _) fun r => ?_
    exact fin ⟨rfl, rfl⟩ (Seals.trans (Seals.drop 0 _ _) (Seals.trans (Seals.drop 0 _ _) (Seals.sub (fs' := [(r, zd (iv false a / 2))]) qS)))
  | true =>
    refine field_box 1 rfl hp ?_
    refine load_box_field 1 rfl (Part.right (Part.refl _)) (load_L _) fun u2 => ?_
    refine call_fn (h2 m1) (Seals.refl _ _) qS ?_
    rintro m2 _ _ ⟨rfl, rfl⟩
    refine call_fn (h3 m2 u2) (Seals.refl _ _) qS ?_
    rintro _ _ _ ⟨rfl, rfl, rfl⟩
    refine cmp_split _ rfl (fun hne => ?_) (fun hne => ?_)
    · have hodd : nv a / 2 * 2 ≠ nv a := fun e => hne (hc.2.2.2 e)
      refine lit_U 1 rfl fun q1 => ?_
      refine call_fn (h4 m1 q1) (Seals.refl _ _) qS ?_
      rintro m3 _ _ ⟨rfl, rfl⟩
      refine field_box 1 rfl hp ?_
      refine load_box_field_one 1 rfl (Part.left (Part.refl _)) ?_
      refine call_fn (made_of m3 true (nv a / 2 + 1) (iv true a / 2) (by simp [iv]; omega)) (Seals.refl _ _) qS ?_
      rintro z _ _ ⟨rfl, rfl⟩
      refine store_box (d := zd (iv true a / 2)) 0 rfl ho rfl (by kernel_rfl) (Reads.fact (v := z) qM) ?_
      refine load_box (d := zd (iv true a / 2)) 0 rfl ho rfl (load_I _ _) fun r => ?_
      exact fin ⟨rfl, rfl⟩ (Seals.trans (Seals.drop 0 _ _) (Seals.trans (Seals.drop 0 _ _) (Seals.sub (fs' := [(r, zd (iv true a / 2))]) qS)))
    · have hev : nv a / 2 * 2 = nv a := hc.2.2.1 (by omega)
      refine field_box 1 rfl hp ?_
      refine load_box_field_one 1 rfl (Part.left (Part.refl _)) ?_
      refine call_fn (made_of m1 true (nv a / 2) (iv true a / 2) (by simp [iv]; omega)) (Seals.refl _ _) qS ?_
      rintro z _ _ ⟨rfl, rfl⟩
      refine store_box (d := zd (iv true a / 2)) 0 rfl ho rfl (by kernel_rfl) (Reads.fact (v := z) qM) ?_
      refine load_box (d := zd (iv true a / 2)) 0 rfl ho rfl (load_I _ _) fun r => ?_
      exact fin ⟨rfl, rfl⟩ (Seals.trans (Seals.drop 0 _ _) (Seals.trans (Seals.drop 0 _ _) (Seals.sub (fs' := [(r, zd (iv true a / 2))]) qS)))
theorem rtSign_meets (v w : Value) (p : Row) (x : Bool × List Nat) (k a : Nat) (hp : Fit k p) (hxl : Lim x.2) (hxa : x.2.length ≤ a) (hk : k + (p.length + 1) * (a + 1) ≤ 137438953472) (lp : p.length ≤ 1073741824) :
    Meets Tryz.prog 13 [v, w] [(v, V p), (w, J x)] (fun r os fs => os = [] ∧ fs = [] ∧ r = .int .i64 (pev (vv p) (jv x)).sign) := by
  have hsz : sz (pev (vv p) (jv x)) 137438953472 := (ev_sz hp.szR (sz_jv hxl hxa)).mono (by rw [vv_len]; rw [Nat.add_mul] at hk; omega)
  refine meets_of_vc Tryz.func13 (by kernel_rfl) rfl (by kernel_rfl) (Nat.le_of_ble_eq_true rfl) ?_
  refine box_rule (Reads.fact (d := J x) qM) fun q hq => ?_
  refine load_box (d := J x) 0 rfl hq rfl (load_J _) fun y => ?_
  refine call_fn (pValueJ v y p x k a hp hxl hxa hk lp) (Seals.refl _ _) qS ?_
  rintro z _ _ ⟨rfl, rfl⟩
  refine call_fn (zSignZ z _ _ hsz (Nat.le_refl _)) (Seals.refl _ _) qS ?_
  rintro _ _ _ ⟨rfl, rfl, rfl⟩
  exact fin ⟨rfl, rfl, rfl⟩ (Seals.trans (Seals.drop 0 _ _) (Seals.nil _ _))
theorem sgn_mul {s t : Int} : (s.sign ≠ 0 ∧ s.sign = -t.sign) ↔ s * t < 0 := by
  rcases Int.lt_trichotomy s 0 with h | h | h <;> rcases Int.lt_trichotomy t 0 with g | g | g
  · rw [sgn_neg h, sgn_neg g]; have := Int.mul_pos_of_neg_of_neg h g; omega
  · rw [g]; simp [sgn_neg h]
  · rw [sgn_neg h, sgn_pos g]; have := Int.mul_neg_of_neg_of_pos h g; omega
  · rw [h]; simp
  · rw [h]; simp
  · rw [h]; simp
  · rw [sgn_pos h, sgn_neg g]; have := Int.mul_neg_of_pos_of_neg h g; omega
  · rw [g]; simp [sgn_pos h]
  · rw [sgn_pos h, sgn_pos g]; have := Int.mul_pos h g; omega
theorem turns_meets (v w : Value) (m : List Row) (x : Bool × List Nat) (k a n : Nat) (hm : ∀ r, r ∈ m → Fit k r ∧ r.length ≤ n) (hxl : Lim x.2) (hxa : x.2.length ≤ a) (hk : k + (n + 1) * (a + 1) ≤ 137438953472) (ln : n ≤ 1073741824) (lm : m.length ≤ 1073741824) :
    Meets Tryz.prog 38 [v, w] [(v, W m), (w, J x)] (fun r os fs => os = [] ∧ fs = [] ∧ r = .int .i64 (vs 0 (m.map fun r => pev (vv r) (jv x)) : Nat)) := by
  refine meets_of_vc Tryz.func38 (by kernel_rfl) rfl (by kernel_rfl) (Nat.le_of_ble_eq_true rfl) ?_
  refine box_rule (Reads.fact (d := J x) qM) fun q hq => ?_
  refine len_fact (v := v) qM fun _ => ?_
  refine loop_rule (X := Nat × Nat × Int) (fun y => ([(3, q), (5, .int .i64 (y.2.1 : Nat)), (6, .int .i64 y.2.2.sign), (10, v), (11, .int .i64 (m.length : Nat)), (12, .int .i64 (y.1 : Nat))], [own1 q 2 1 (fun _ => J x)], [(v, W m)]))
    (fun y => y.1 ≤ m.length ∧ y.2.1 ≤ y.1 ∧ y.2.1 + vs y.2.2 ((m.drop y.1).map fun r => pev (vv r) (jv x)) = vs 0 (m.map fun r => pev (vv r) (jv x))) (fun y => m.length - y.1) rfl ?_ ?_
  · exact again (0, 0, 0) ⟨Nat.zero_le _, Nat.le_refl _, by simp only [List.drop_zero]; omega⟩ trivial qF (Seals.trans (Seals.box0 rfl) (Seals.sub qS))
  rintro ⟨i, c, t⟩ ⟨hi, hc, he⟩
  simp only at hi hc he ⊢
  refine cmp_split _ rfl (fun hlt => ?_) (fun hlt => ?_)
  · have hin : i < m.length := by omega
    have hmem : m.getD i [] ∈ m := getD_mem [] hin
    obtain ⟨g1, g2⟩ := hm _ hmem
    have hstep : vs t ((m.drop i).map fun r => pev (vv r) (jv x)) = if pev (vv (m.getD i [])) (jv x) = 0 then vs t ((m.drop (i + 1)).map fun r => pev (vv r) (jv x)) else (if pev (vv (m.getD i [])) (jv x) * t < 0 then 1 else 0) + vs (pev (vv (m.getD i [])) (jv x)) ((m.drop (i + 1)).map fun r => pev (vv r) (jv x)) := by
      rw [List.drop_eq_getElem_cons hin, List.map_cons]
      have : m[i] = m.getD i [] := by rw [List.getD_eq_getElem?_getD, List.getElem?_eq_getElem hin]; rfl
      rw [this]; rfl
    rw [hstep] at he
    have hmul : (m.getD i []).length * (a + 1) ≤ n * (a + 1) := Nat.mul_le_mul_right _ g2
    have hsg := fun u u' => rtSign_meets u u' (m.getD i []) x k a g1 hxl hxa (by have e1 := Nat.add_one_mul n (a + 1); have e2 := Nat.add_one_mul (m.getD i []).length (a + 1); omega) (by omega)
    generalize hy : pev (vv (m.getD i [])) (jv x) = y at *
    have hsb : y.sign = -1 ∨ y.sign = 0 ∨ y.sign = 1 := by
      rcases Int.lt_trichotomy y 0 with h | h | h
      · rw [sgn_neg h]; omega
      · rw [h]; simp
      · rw [sgn_pos h]; omega
    have htb : t.sign = -1 ∨ t.sign = 0 ∨ t.sign = 1 := by
      rcases Int.lt_trichotomy t 0 with h | h | h
      · rw [sgn_neg h]; omega
      · rw [h]; simp
      · rw [sgn_pos h]; omega
    refine index_fact (v := v) qM i rfl (by omega) fun a1 => ?_
    refine load_fact (d := V (m.getD i [])) qM (load_P _) fun a2 => ?_
    refine load_box (d := J x) 0 rfl hq rfl (load_J _) fun y1 => ?_
    refine call_fn (hsg a2 y1) (Seals.refl _ _) qS ?_
    rintro _ _ _ ⟨rfl, rfl, rfl⟩
    refine cmp_split _ rfl (fun h0 => ?_) (fun h0 => ?_)
    · have hy0 : y ≠ 0 := fun e => h0 (by rw [e]; rfl)
      rw [if_neg hy0] at he
      refine un_neg (m := -t.sign) (by rw [wrap_in (show inK .i64 (0 - t.sign) from ⟨by omega, by omega⟩)]; omega) ?_
      refine cmp_split _ rfl (fun h1 => ?_) (fun h1 => ?_)
      · have hneg : y * t < 0 := sgn_mul.1 ⟨h0, h1⟩
        rw [if_pos hneg] at he
        refine ar rfl qI ?_
        refine cmp_true rfl h0 ?_
        refine ar rfl qI ?_
        exact again (i + 1, c + 1, y) ⟨by simp only; omega, by simp only; omega, by simp only; omega⟩ (by simp only; omega) qF (Seals.sub (fs' := [(v, W m)]) qS)
      · have hneg : ¬ y * t < 0 := fun h => h1 (sgn_mul.2 h).2
        rw [if_neg hneg] at he
        refine cmp_true rfl h0 ?_
        refine ar rfl qI ?_
        exact again (i + 1, c, y) ⟨by simp only; omega, by simp only; omega, by simp only; omega⟩ (by simp only; omega) qF (Seals.sub (fs' := [(v, W m)]) qS)
    · have hy0 : y = 0 := Int.sign_eq_zero_iff_zero.1 (by omega)
      rw [if_pos hy0] at he
      refine cmp_false rfl h0 ?_
      refine ar rfl qI ?_
      exact again (i + 1, c, t) ⟨by simp only; omega, by simp only; omega, by simp only; omega⟩ (by simp only; omega) qF (Seals.sub (fs' := [(v, W m)]) qS)
  · have hin : i = m.length := by omega
    subst hin
    rw [List.drop_length] at he
    have he' : c = vs 0 (m.map fun r => pev (vv r) (jv x)) := by simpa [vs] using he
    rw [← he']
    exact fin ⟨rfl, rfl, rfl⟩ (Seals.trans (Seals.drop 0 _ _) (Seals.nil _ _))
open Go.RowKit
theorem deg_dg (l : List Int) : deg l = (dg l : Int) - 1 := by
  have h1 := degTo_le l l.length (dg l) (dg_le_len l) fun j h _ => dg_le.1 (Nat.le_refl _) j h
  unfold deg
  rw [h1]
  by_cases h0 : dg l = 0
  · rw [h0]; rfl
  · have h2 := ld_ne (l := l) (by omega)
    unfold ld at h2
    obtain ⟨m, hm⟩ : ∃ m, dg l = m + 1 := ⟨dg l - 1, by omega⟩
    rw [hm] at h2 ⊢
    simp only [degTo, Nat.add_sub_cancel] at h2 ⊢
    rw [if_neg h2]; omega
theorem rNormP_meets (v : Value) (p : Row) (hp : Fit 137438953472 p) (lp : p.length ≤ 536870912) :
    Meets Tryz.prog 112 [v] [(v, V p)] (fun r os fs => os = [] ∧ fs = [(r, vd (nrm (vv p)))]) := by
  have hd := rDegree_meets v p (hp.mono (by decide))
  rw [deg_dg] at hd
  have hdl : dg (vv p) ≤ p.length := Nat.le_trans (dg_le_len _) (by rw [vv_len]; exact Nat.le_refl _)
  have hfin : lst (dg (vv p)) (fun i => (vv p).getD i 0) = nrm (vv p) := row_eq_of_getD 0 (by rw [lst_len]; rfl) fun j hj => by
    rw [lst_len] at hj
    rw [lst_get hj, co_nrm]
  have hat : ∀ i : Nat, Meets Tryz.prog 78 [v, .int .i64 (i : Nat)] [(v, V p)] (fun r os fs => os = [] ∧ fs = [(r, zd ((vv p).getD i 0))]) := fun i => by
    have := rAt_meets v p (i : Nat) (hp.mono (by decide))
    rw [if_neg (by omega), Int.toNat_natCast] at this
    exact this
  generalize hn : dg (vv p) = n at *
  generalize hg : (fun i => (vv p).getD i 0) = g at *
  have hat' : ∀ i : Nat, Meets Tryz.prog 78 [v, .int .i64 (i : Nat)] [(v, V p)] (fun r os fs => os = [] ∧ fs = [(r, zd (g i))]) := fun i => by rw [← hg]; exact hat i
  rw [← hfin]
  refine meets_of_vc Tryz.func112 (by kernel_rfl) rfl (by kernel_rfl) (Nat.le_of_ble_eq_true rfl) ?_
  refine call_fn hd (Seals.refl _ _) qS ?_
  rintro _ _ _ ⟨rfl, rfl, rfl⟩
  refine ar rfl qI ?_
  refine empty_L (size := 2) (e := 26) J z0 (by decide) fun v0 hv0 => ?_
  refine loop_rule (X := Value × Nat) (fun x => ([(0, v), (3, .int .i64 (n : Nat)), (4, x.1), (5, .int .i64 (x.2 : Nat))], [ownL 2 J z0 x.1 ((lst x.2 g).map cn)], [(v, V p)])) (fun x => isSl x.1 ∧ x.2 ≤ n) (fun x => n - x.2) rfl ?_ ?_
  · exact again (v0, 0) ⟨hv0, Nat.zero_le _⟩ trivial qF (Seals.sub qS)
  · rintro ⟨vo, i⟩ ⟨hvo, h2⟩
    simp only at hvo h2 ⊢
    refine cmp_split _ rfl (fun hlt => ?_) (fun hlt => ?_)
    · have hll : (lst i g).length = i := lst_len _ _
      refine call_fn (hat' i) (Seals.refl _ _) qS ?_
      rintro y1 _ _ ⟨rfl, rfl⟩
      refine lit_L (size := 2) (f := J) (z := z0) (e := 26) (cn (g i)) (by decide) (Reads.fact qM) rfl fun y4 => ?_
      refine append_L (size := 2) (e := 26) (f := J) (z := z0) (l := (lst i g).map cn) (m := [cn (g i)]) 0 rfl hvo (Knw.fact qM) (by simp only [List.length_map, hll, List.length_cons, List.length_nil]; omega) (by simp only [List.length_map, hll, List.length_cons, List.length_nil]; omega) fun vn hvn => ?_
      refine ar rfl qI ?_
      refine again (vn, i + 1) ⟨hvn, by simp only; omega⟩ (by simp only; omega) qF ?_
      rw [show (lst i g).map cn ++ [cn (g i)] = (lst (i + 1) g).map cn by rw [lst_snoc, List.map_append]; rfl]
      exact Seals.sub qS
    · have hii : i = n := by omega
      subst hii
      exact fin ⟨rfl, rfl⟩ (Seals.trans (Seals.toldL hvo) (Seals.sub qS))
open Go.RowKit
theorem rNormT (v : Value) (l : List Int) (hl : szR 137438953472 l) (ll : l.length ≤ 536870912) :
    Meets Tryz.prog 112 [v] [(v, vd l)] (fun r os fs => os = [] ∧ fs = [(r, vd (nrm l))]) := by
  have h := rNormP_meets v (l.map cn) hl.fit (by rw [List.length_map]; exact ll)
  rw [vv_cn] at h
  exact h
theorem rTimesJ (v w : Value) (p : Row) (cj : Bool × List Nat) (k : Nat) (hp : Fit k p) (hcl : Lim cj.2) (hca : cj.2.length ≤ k) (hk : k + k ≤ 137438953472) (lp : p.length ≤ 536870912) :
    Meets Tryz.prog 111 [v, w] [(v, V p), (w, J cj)] (fun r os fs => os = [] ∧ fs = [(r, vd (ptim (jv cj) (vv p)))]) := by
  have hc : sz (jv cj) k := sz_jv hcl hca
  obtain ⟨c, hcj⟩ : ∃ c, jv cj = c := ⟨_, rfl⟩
  rw [hcj] at hc ⊢
  have hfin : lst p.length (fun i => c * (vv p).getD i 0) = (vv p).map fun y => c * y := by
    rw [← vv_len]; exact lst_map (vv p) fun y => c * y
  have hsz : szR (k + k) ((vv p).map fun y => c * y) := hp.szR.map hc
  have hgi : ∀ i, i < p.length → c * jv (p.getD i z0) = (fun i => c * (vv p).getD i 0) i := fun i hi => by simp only; rw [vv_get p i hi]
  have hn := fun u => rNormT u ((vv p).map fun y => c * y) (hsz.mono hk) (by rw [List.length_map, vv_len]; exact lp)
  rw [← hfin] at hn
  have hdef : ptim c (vv p) = nrm (lst p.length fun i => c * (vv p).getD i 0) := by rw [hfin]; rfl
  rw [hdef]
  generalize hg : (fun i => c * (vv p).getD i 0) = g at *
  refine meets_of_vc Tryz.func111 (by kernel_rfl) rfl (by kernel_rfl) (Nat.le_of_ble_eq_true rfl) ?_
  refine box_fact (Reads.fact (d := J cj) qM) fun px => ?_
  refine empty_L (size := 2) (e := 26) J z0 (by decide) fun v0 hv0 => ?_
  refine loop_rule (X := Value × Nat) (fun x => ([(0, v), (3, px), (5, x.1), (6, .int .i64 (x.2 : Nat))], [ownL 2 J z0 x.1 ((lst x.2 g).map cn)], [(v, V p), (px, .ptr (J cj))])) (fun x => isSl x.1 ∧ x.2 ≤ p.length) (fun x => p.length - x.2) rfl ?_ ?_
  · exact again (v0, 0) ⟨hv0, Nat.zero_le _⟩ trivial qF (Seals.sub qS)
  · rintro ⟨vo, i⟩ ⟨hvo, h2⟩
    simp only at hvo h2 ⊢
    refine len_fact qM fun _ => ?_
    refine cmp_split _ rfl (fun hlt => ?_) (fun hlt => ?_)
    · have hin : i < p.length := by omega
      have hll : (lst i g).length = i := lst_len _ _
      have hpi := hp.get i
      have hmul := fun u u' => rMulJ u u' cj (p.getD i z0) hcl (by omega) hpi.1 (by omega)
      rw [hcj, hgi i hin] at hmul
      refine draw_rule [0, 1, 2, 3, 4, 5, 6, 7, 8, 9] [0, 1, 2, 3, 4, 5, 6, 7, 8, 9] (by kernel_rfl) (by kernel_rfl) ?_
      refine load_fact (d := J cj) qM (load_J _) fun y1 => ?_
      refine index_fact qM i rfl hin fun b1 => ?_
      refine load_fact (d := J (p.getD i z0)) qM (load_J _) fun y2 => ?_
      refine call_fn (hmul y1 y2) (Seals.refl _ _) qS ?_
      rintro y3 _ _ ⟨rfl, rfl⟩
      refine lit_L (size := 2) (f := J) (z := z0) (e := 26) (cn (g i)) (by decide) (Reads.fact qM) rfl fun y4 => ?_
      refine append_L (size := 2) (e := 26) (f := J) (z := z0) (l := (lst i g).map cn) (m := [cn (g i)]) 0 rfl hvo (Knw.fact qM) (by simp only [List.length_map, hll, List.length_cons, List.length_nil]; omega) (by simp only [List.length_map, hll, List.length_cons, List.length_nil]; omega) fun vn hvn => ?_
      refine ar rfl qI ?_
      refine again (vn, i + 1) ⟨hvn, by simp only; omega⟩ (by simp only; omega) qF ?_
      rw [show (lst i g).map cn ++ [cn (g i)] = (lst (i + 1) g).map cn by rw [lst_snoc, List.map_append]; rfl]
      exact Seals.sub qS
    · have hii : i = p.length := by omega
      subst hii
      refine call_fn (hn vo) (Seals.toldL hvo) qS ?_
      rintro r _ _ ⟨rfl, rfl⟩
      exact fin ⟨rfl, rfl⟩ (Seals.sub qS)
theorem rTimes_meets (v w : Value) (p : Row) (c : Int) (k : Nat) (hp : Fit k p) (hc : sz c k) (hk : k + k ≤ 137438953472) (lp : p.length ≤ 536870912) :
    Meets Tryz.prog 111 [v, w] [(v, V p), (w, zd c)] (fun r os fs => os = [] ∧ fs = [(r, vd (ptim c (vv p)))]) := by
  have h := rTimesJ v w p (cn c) k hp (Lim_lims _) hc.len hk lp
  rw [jv_cn] at h
  exact h
open Go.RowKit
theorem rAtN (v : Value) (p : Row) (hp : Fit 1099511627776 p) (i : Nat) : Meets Tryz.prog 78 [v, .int .i64 (i : Nat)] [(v, V p)] (fun r os fs => os = [] ∧ fs = [(r, zd ((vv p).getD i 0))]) := by
  have := rAt_meets v p (i : Nat) hp
  rw [if_neg (by omega), Int.toNat_natCast] at this
  exact this
theorem rPAdd_meets (v w : Value) (p q : Row) (k : Nat) (hp : Fit k p) (hq : Fit k q) (hk : k + 1 ≤ 137438953472) (lp : p.length ≤ 536870912) (lq : q.length ≤ 536870912) :
    Meets Tryz.prog 131 [v, w] [(v, V p), (w, V q)] (fun r os fs => os = [] ∧ fs = [(r, vd (padd (vv p) (vv q)))]) := by
  have a1 := rAtN v p (hp.mono (by omega))
  have a2 := rAtN w q (hq.mono (by omega))
  have hsz : szR (k + 1) (lst (max p.length q.length) fun i => (vv p).getD i 0 + (vv q).getD i 0) := szR.lst fun i _ => by
    have := sz_sub (hp.szR.get i) ((hq.szR.get i).neg)
    rwa [Int.sub_neg] at this
  have hn := fun u => rNormT u (lst (max p.length q.length) fun i => (vv p).getD i 0 + (vv q).getD i 0) (hsz.mono hk) (by rw [lst_len]; omega)
  have hdef : padd (vv p) (vv q) = nrm (lst (max p.length q.length) fun i => (vv p).getD i 0 + (vv q).getD i 0) := by unfold padd; rw [vv_len, vv_len]
  have had := fun u u' i => rAddZ u u' ((vv p).getD i 0) ((vv q).getD i 0) k (hp.szR.get i) (hq.szR.get i) (by omega)
  rw [hdef]
  generalize hg : (fun i => (vv p).getD i 0 + (vv q).getD i 0) = g at *
  have had' : ∀ u u' i, Meets Tryz.prog 35 [u, u'] [(u, zd ((vv p).getD i 0)), (u', zd ((vv q).getD i 0))] (fun r os fs => os = [] ∧ fs = [(r, zd (g i))]) := fun u u' i => by
    rw [← hg]; exact had u u' i
  generalize hm : max p.length q.length = m at *
  refine meets_of_vc Tryz.func131 (by kernel_rfl) rfl (by kernel_rfl) (Nat.le_of_ble_eq_true rfl) ?_
  refine empty_L (size := 2) (e := 26) J z0 (by decide) fun v0 hv0 => ?_
  refine loop_rule (X := Value × Nat) (fun x => ([(0, v), (1, w), (5, x.1), (6, .int .i64 (x.2 : Nat))], [ownL 2 J z0 x.1 ((lst x.2 g).map cn)], [(v, V p), (w, V q)])) (fun x => isSl x.1 ∧ x.2 ≤ m) (fun x => m - x.2) rfl ?_ ?_
  · exact again (v0, 0) ⟨hv0, Nat.zero_le _⟩ trivial qF (Seals.sub qS)
  · rintro ⟨vo, i⟩ ⟨hvo, h2⟩
    simp only at hvo h2 ⊢
    refine len_fact qM fun _ => ?_
    refine len_fact qM fun _ => ?_
    refine max2_rule ?_
    refine cmp_split _ rfl (fun hlt => ?_) (fun hlt => ?_)
    · have hin : i < m := by omega
      have hll : (lst i g).length = i := lst_len _ _
      refine call_fn (a1 i) (Seals.refl _ _) qS ?_
      rintro y1 _ _ ⟨rfl, rfl⟩
      refine call_fn (a2 i) (Seals.refl _ _) qS ?_
      rintro y2 _ _ ⟨rfl, rfl⟩
      refine call_fn (had' y1 y2 i) (Seals.refl _ _) qS ?_
      rintro y3 _ _ ⟨rfl, rfl⟩
      refine lit_L (size := 2) (f := J) (z := z0) (e := 26) (cn (g i)) (by decide) (Reads.fact qM) rfl fun y4 => ?_
      refine append_L (size := 2) (e := 26) (f := J) (z := z0) (l := (lst i g).map cn) (m := [cn (g i)]) 0 rfl hvo (Knw.fact qM) (by simp only [List.length_map, hll, List.length_cons, List.length_nil]; omega) (by simp only [List.length_map, hll, List.length_cons, List.length_nil]; omega) fun vn hvn => ?_
      refine ar rfl qI ?_
      refine again (vn, i + 1) ⟨hvn, by simp only; omega⟩ (by simp only; omega) qF ?_
      rw [show (lst i g).map cn ++ [cn (g i)] = (lst (i + 1) g).map cn by rw [lst_snoc, List.map_append]; rfl]
      exact Seals.sub qS
    · have hii : i = m := by omega
      subst hii
      refine call_fn (hn vo) (Seals.toldL hvo) qS ?_
      rintro r _ _ ⟨rfl, rfl⟩
      exact fin ⟨rfl, rfl⟩ (Seals.sub qS)
theorem padd_ptim (l m : List Int) : padd l (ptim (-1) m) = psub l m := padd_neg l m
theorem rPSub_meets (v w : Value) (p q : Row) (k : Nat) (hp : Fit k p) (hq : Fit k q) (h1k : 1 ≤ k) (hk : k + k ≤ 137438953472) (lp : p.length ≤ 536870912) (lq : q.length ≤ 536870912) :
    Meets Tryz.prog 132 [v, w] [(v, V p), (w, V q)] (fun r os fs => os = [] ∧ fs = [(r, vd (psub (vv p) (vv q)))]) := by
  have hr := fun u => rTimes_meets w u q (-1) k hq ((sz_one _ (by decide)).mono h1k) hk lq
  have sn : szR k (ptim (-1) (vv q)) := hq.szR.neg
  have ln : (ptim (-1) (vv q)).length ≤ q.length := by
    have := prai_len (-1) 0 (vv q)
    rw [vv_len] at this
    rw [prai_zero] at this; omega
  have hs := fun u => rPAdd_meets v u p ((ptim (-1) (vv q)).map cn) k hp sn.fit (by omega) lp (by rw [List.length_map]; omega)
  simp only [vv_cn, padd_ptim] at hs
  refine meets_of_vc Tryz.func132 (by kernel_rfl) rfl (by kernel_rfl) (Nat.le_of_ble_eq_true rfl) ?_
  refine call_fn (rOf_meets (-1) (by decide) (by decide)) (Seals.refl _ _) qS ?_
  rintro x1 _ _ ⟨rfl, rfl⟩
  refine call_fn (hr x1) (Seals.refl _ _) qS ?_
  rintro x2 _ _ ⟨rfl, rfl⟩
  refine call_fn (hs x2) (Seals.refl _ _) qS ?_
  rintro r _ _ ⟨rfl, rfl⟩
  exact fin ⟨rfl, rfl⟩ (Seals.sub qS)
open Go.RowKit
theorem rDegreeN (v : Value) (p : Row) (hp : Fit 1099511627776 p) :
    Meets Tryz.prog 31 [v] [(v, V p)] (fun r os fs => os = [] ∧ fs = [] ∧ r = .int .i64 ((dg (vv p) : Nat) - 1 : Int)) := by
  have := rDegree_meets v p hp
  rw [deg_dg] at this; exact this
theorem rMulZZ' (v w : Value) (x y : Int) (e : Nat) (hx : sz x e) (hy : sz y e) (he : e ≤ 137438953472) :
    Meets Tryz.prog 83 [v, w] [(v, zd x), (w, zd y)] (fun r os fs => os = [] ∧ fs = [(r, zd (x * y))]) := by
  have h := rMulZJ v w x (cn y) e hx he (Lim_lims _) (Nat.le_trans hy.len he)
  rw [jv_cn] at h
  exact h
theorem conv_none {a b : List Int} {y : Nat} : ∀ {i : Nat}, (∀ t, t < i → t ≤ y → b.length ≤ y - t) → conv a b i y = 0
  | 0, _ => rfl
  | i + 1, h => by
    rw [conv_succ, conv_none fun t ht hy => h t (by omega) hy]
    split
    · rw [getD_none (h i (by omega) (by omega))]; simp
    · rfl
theorem conv_more {a b : List Int} {y i : Nat} : ∀ (d : Nat), (y < i ∨ a.length ≤ i) → conv a b (i + d) y = conv a b i y
  | 0, _ => rfl
  | d + 1, h => by
    rw [← Nat.add_assoc, conv_succ, conv_more d h]
    split
    · rcases h with h | h
      · omega
      · rw [getD_none (l := a) (by omega)]; simp
    · simp
theorem rPMul_meets (v w : Value) (p q : Row) (k j : Nat) (hp : Fit k p) (hq : Fit j q) (hk : k + j + 1 ≤ 137438953472) (lp : p.length ≤ 268435456) (lq : q.length ≤ 268435456) :
    Meets Tryz.prog 133 [v, w] [(v, V p), (w, V q)] (fun r os fs => os = [] ∧ fs = [(r, vd (pmul (vv p) (vv q)))]) := by
  have d1 := rDegreeN v p (hp.mono (by omega))
  have d2 := rDegreeN w q (hq.mono (by omega))
  have a1 := rAtN v p (hp.mono (by omega))
  have a2 := rAtN w q (hq.mono (by omega))
  have sa := hp.szR.nrm
  have sb := hq.szR.nrm
  have la : (nrm (vv p)).length ≤ p.length := Nat.le_trans (nrm_length_le _) (by rw [vv_len]; exact Nat.le_refl _)
  have lb : (nrm (vv q)).length ≤ q.length := Nat.le_trans (nrm_length_le _) (by rw [vv_len]; exact Nat.le_refl _)
  have e1 : ∀ i, (vv p).getD i 0 = (nrm (vv p)).getD i 0 := fun i => (co_nrm _ _).symm
  have e2 : ∀ i, (vv q).getD i 0 = (nrm (vv q)).getD i 0 := fun i => (co_nrm _ _).symm
  have hdef : pmul (vv p) (vv q) = if nrm (vv p) = [] ∨ nrm (vv q) = [] then [] else nrm (lst ((nrm (vv p)).length + (nrm (vv q)).length - 1) fun y => conv (nrm (vv p)) (nrm (vv q)) (nrm (vv p)).length y) := rfl
  have hdg1 : dg (vv p) = (nrm (vv p)).length := rfl
  have hdg2 : dg (vv q) = (nrm (vv q)).length := rfl
  rw [hdef]
  simp only [e1] at a1
  simp only [e2] at a2
  rw [hdg1] at d1
  rw [hdg2] at d2
  generalize nrm (vv p) = a at *
  generalize nrm (vv q) = b at *
  have hcs : ∀ m y, m ≤ a.length → sz (conv a b m y) (k + j + 1) := fun m y hm => conv_sz sa sb (by omega) y
  have hn := fun u n => rNormT u (lst n fun y => conv a b a.length y) ((szR.lst fun i _ => hcs _ _ (Nat.le_refl _)).mono hk)
  have hpr : ∀ i t, sz (a.getD i 0 * b.getD t 0) (k + j + 1) := fun i t => ((sa.get i).mul (sb.get t)).mono (by omega)
  refine meets_of_vc Tryz.func133 (by kernel_rfl) rfl (by kernel_rfl) (Nat.le_of_ble_eq_true rfl) ?_
  refine empty_L (size := 2) (e := 26) J z0 (by decide) fun v0 hv0 => ?_
  refine call_fn d1 (Seals.refl _ _) qS ?_
  rintro _ _ _ ⟨rfl, rfl, rfl⟩
  refine call_fn d2 (Seals.refl _ _) qS ?_
  rintro _ _ _ ⟨rfl, rfl, rfl⟩
  generalize hg : (fun y => conv a b a.length y) = g at *
  have hgi : ∀ y, conv a b a.length y = g y := fun y => by rw [← hg]
  refine loop_rule (X := Nat × Value) (fun x => ([(0, v), (1, w), (5, x.2), (6, .int .i64 ((a.length : Nat) - 1 : Int)), (7, .int .i64 ((b.length : Nat) - 1 : Int)), (8, .int .i64 (x.1 : Nat))], [ownL 2 J z0 x.2 ((lst x.1 g).map cn)], [(v, V p), (w, V q)]))
    (fun x => isSl x.2 ∧ (a.length = 0 ∨ b.length = 0 → x.1 = 0) ∧ x.1 ≤ a.length + b.length - 1) (fun x => a.length + b.length - x.1) rfl ?_ ?_
  · exact again (0, v0) ⟨hv0, fun _ => rfl, Nat.zero_le _⟩ trivial qF (Seals.sub qS)
  · rintro ⟨y, vo⟩ ⟨hvo, hz, hy1⟩
    simp only at hvo hz hy1 ⊢
    have hll : (lst y g).length = y := lst_len _ _
    refine cmp_split _ rfl (fun h1 => ?_) (fun h1 => ?_)
    · refine cmp_split _ rfl (fun h2 => ?_) (fun h2 => ?_)
      · have hA : 0 < a.length := by omega
        have hB : 0 < b.length := by omega
        refine ar rfl qI ?_
        refine cmp_split _ rfl (fun h3 => ?_) (fun h3 => ?_)
        · have hy : y + 2 ≤ a.length + b.length := by omega
          refine build0 (da := .one (.bool false)) (db := U (lims 0)) (fun S w => ⟨[.bool false], [.slice none 0 0], rfl, rd_false S w, by rw [lims_zero]; exact rd_nil S w 1 _⟩) fun z => ?_
          refine alloc_rule (d := I false []) fun c hc => ?_
          refine store_box (d := zd 0) 0 rfl hc rfl (by kernel_rfl) ?_ ?_; exact Reads.fact qM
          refine ar rfl qI ?_
          refine max2_rule ?_
          have h00 : conv a b (y + 1 - b.length) y = 0 := conv_none fun t ht hty => by omega
          refine loop_rule (X := Nat) (fun i => ([(0, v), (1, w), (5, vo), (6, .int .i64 ((a.length : Nat) - 1 : Int)), (7, .int .i64 ((b.length : Nat) - 1 : Int)), (8, .int .i64 (y : Nat)), (9, c), (10, .int .i64 (i : Nat))], [own1 c 2 1 (fun _ => zd (conv a b i y)), ownL 2 J z0 vo ((lst y g).map cn)], [(v, V p), (w, V q)]))
            (fun i => i ≤ a.length ∧ i ≤ y + 1) (fun i => a.length - i) rfl ?_ ?_
          · exact again (y + 1 - b.length) ⟨by omega, by omega⟩ trivial ⟨rfl, rfl, rfl, rfl, rfl, rfl, rfl, i64_eq (by omega), trivial⟩ (Seals.trans (Seals.box0 (by rw [h00]; rfl)) (Seals.sub qS))
          · rintro i ⟨hi1, hi2⟩
            simp only at hi1 hi2 ⊢
            refine min2_rule ?_
            refine cmp_split _ rfl (fun h4 => ?_) (fun h4 => ?_)
            · have hia : i < a.length := by omega
              have hiy : i ≤ y := by omega
              have hat := a2 (y - i)
              rw [show ((y - i : Nat) : Int) = (y : Int) - (i : Int) by omega] at hat
              have hsum : conv a b i y + a.getD i 0 * b.getD (y - i) 0 = conv a b (i + 1) y := by rw [conv_succ, if_pos hiy]
              have hadd := fun u u' => rAddZ u u' _ _ (k + j + 1) (hcs i y (by omega)) (hpr i (y - i)) hk
              rw [hsum] at hadd
              refine draw_rule [0, 1, 2, 4, 5, 6, 7, 3, 8, 9, 10, 11] [0, 1, 2, 3, 4, 5, 6, 7, 8, 9, 10, 11] (by kernel_rfl) (by kernel_rfl) ?_
              refine load_box (d := zd (conv a b i y)) 0 rfl hc rfl (load_I _ _) fun y1 => ?_
              refine ar rfl qI ?_
              refine call_fn (a1 i) (Seals.refl _ _) qS ?_
              rintro y2 _ _ ⟨rfl, rfl⟩
              refine call_fn hat (Seals.refl _ _) qS ?_
              rintro y3 _ _ ⟨rfl, rfl⟩
              refine call_fn (rMulZZ' y2 y3 _ _ (k + j + 1) ((sa.get i).mono (by omega)) ((sb.get (y - i)).mono (by omega)) hk) (Seals.refl _ _) qS ?_
              rintro y4 _ _ ⟨rfl, rfl⟩
              refine call_fn (hadd y1 y4) (Seals.refl _ _) qS ?_
              rintro y5 _ _ ⟨rfl, rfl⟩
              refine store_box (d := zd (conv a b (i + 1) y)) 0 rfl hc rfl (by kernel_rfl) ?_ ?_; exact Reads.fact qM
              refine ar rfl qI ?_
              exact again (i + 1) ⟨by omega, by omega⟩ (by simp only; omega) qF (Seals.trans (Seals.box0 rfl) (Seals.sub qS))
            · have hfin : conv a b i y = g y := by
                rw [← hgi]
                obtain ⟨d, hd⟩ : ∃ d, a.length = i + d := ⟨a.length - i, by omega⟩
                rw [hd]
                exact (conv_more d (by omega)).symm
              rw [hfin]
              refine load_box (d := zd (g y)) 0 rfl hc rfl (load_I _ _) fun y6 => ?_
              refine lit_L (size := 2) (f := J) (z := z0) (e := 26) (cn (g y)) (by decide) (Reads.fact qM) rfl fun y7 => ?_
              refine append_L (size := 2) (e := 26) (f := J) (z := z0) (l := (lst y g).map cn) (m := [cn (g y)]) 1 rfl hvo (Knw.fact qM) (by simp only [List.length_map, hll, List.length_cons, List.length_nil]; omega) (by simp only [List.length_map, hll, List.length_cons, List.length_nil]; omega) fun vn hvn => ?_
              refine ar rfl qI ?_
              refine again (y + 1, vn) ⟨hvn, fun h => by omega, by simp only; omega⟩ (by simp only; omega) qF ?_
              rw [show (lst y g).map cn ++ [cn (g y)] = (lst (y + 1) g).map cn by rw [lst_snoc, List.map_append]; rfl]
              exact Seals.trans (Seals.drop 0 _ _) (Seals.sub qS)
        · by_cases hy0 : y = a.length + b.length - 1
          · have hne : ¬ (a = [] ∨ b = []) := fun h => h.elim (fun e => by rw [e] at hA; simp at hA) fun e => by rw [e] at hB; simp at hB
            rw [if_neg hne, ← hy0]
            refine call_fn (hn vo y (by rw [lst_len]; omega)) (Seals.toldL hvo) qS ?_
            rintro r _ _ ⟨rfl, rfl⟩
            exact fin ⟨rfl, rfl⟩ (Seals.sub qS)
          · omega
      · have hB : b = [] := List.eq_nil_of_length_eq_zero (by omega)
        have hy0 := hz (.inr (by rw [hB]; rfl))
        subst hy0
        rw [if_pos (.inr hB)]
        refine call_fn (hn vo 0 (by rw [lst_len]; omega)) (Seals.toldL hvo) qS ?_
        rintro r _ _ ⟨rfl, rfl⟩
        exact fin ⟨rfl, rfl⟩ (Seals.sub qS)
    · have hA : a = [] := List.eq_nil_of_length_eq_zero (by omega)
      have hy0 := hz (.inl (by rw [hA]; rfl))
      subst hy0
      rw [if_pos (.inl hA)]
      refine call_fn (hn vo 0 (by rw [lst_len]; omega)) (Seals.toldL hvo) qS ?_
      rintro r _ _ ⟨rfl, rfl⟩
      exact fin ⟨rfl, rfl⟩ (Seals.sub qS)
open Go.RowKit
open Go.RowKit
theorem rAddJZ (v w : Value) (x : Bool × List Nat) (y : Int) (e : Nat) (hx : Lim x.2) (lx : x.2.length ≤ 137438953472) (hy : sz y e) (he : e ≤ 137438953472) :
    Meets Tryz.prog 35 [v, w] [(v, J x), (w, zd y)] (fun r os fs => os = [] ∧ fs = [(r, zd (jv x + y))]) := by
  have h := rZAdd_meets v w x.1 (decide (y < 0)) x.2 (lims y.natAbs) hx (Lim_lims _) lx (Nat.le_trans hy.len he)
  rw [iv_zd] at h
  exact h
end Go.Proofs.YtgpcepcbdpigfaaGreat
namespace Go.Proofs.YtgpcepcbdpigfaaGreat
def sF (f : Nat → Int) (d i k : Nat) : Int := if i ≤ k ∧ k ≤ i + d then f (d + i - k) else 0
def S2 (m n : Nat) (f g : Nat → Int) : Mx := fun i k => if i < n then sF f m i k else sF g n (i - n) k
end Go.Proofs.YtgpcepcbdpigfaaGreat
namespace Go.Proofs.YtgpcepcbdpigfaaGreat
open Go.RowKit
theorem deg_dgM (l : List Int) : deg l = (dg l : Int) - 1 := by
  have h1 := degTo_le l l.length (dg l) (dg_le_len l) fun j h _ => dg_le.1 (Nat.le_refl _) j h
  unfold deg
  rw [h1]
  by_cases h0 : dg l = 0
  · rw [h0]; rfl
  · have h2 := ld_ne (l := l) (by omega)
    unfold ld at h2
    obtain ⟨m, hm⟩ : ∃ m, dg l = m + 1 := ⟨dg l - 1, by omega⟩
    rw [hm] at h2 ⊢
    simp only [degTo, Nat.add_sub_cancel] at h2 ⊢
    rw [if_neg h2]; omega
structure ResLaw (l m n : List Int) (a : Int) : Prop where
  turn : 0 < dg l → 0 < dg m → mres m l = (if (dg l - 1) % 2 = 1 ∧ (dg m - 1) % 2 = 1 then - mres l m else mres l m)
  common : ∀ g, 0 < dg l → 0 < dg m → Gc g l m → (mres l m = 0 ↔ 2 ≤ dg g)
  mul : 0 < dg l → 0 < dg m → 0 < dg n → mres (pmul l n) m = mres l m * mres n m
  line : 0 < dg m → mres [-a, 1] m = pev m a
theorem pDegreeN (v : Value) (p : Row) (hp : Fit 137438953472 p) :
    Meets Tryz.prog 25 [v] [(v, V p)] (fun r os fs => os = [] ∧ fs = [] ∧ r = .int .i64 ((dg (vv p) : Nat) - 1 : Int)) := by
  have := pDegree_meets v p hp
  rw [deg_dgM] at this; exact this
open Go.RowKit
theorem reduced_call {K : Cont} {os : List Own} {fs : List Fact} {v : Value} {l : List Int} {k : Nat} (hs : isSl v) (hn : Nm l) (hp : szR k l) (hk : k ≤ 34359738368)
    (kk : K v (ownL 2 J z0 v ((redc l).map cn) :: os) fs) : CallK Tryz.prog false (.func (.func 70) #[] #[]) [v] (ownL 2 J z0 v (l.map cn) :: os) fs K := by
  have hml : (l.map cn).length = l.length := List.length_map _
  have hgs : sz (cont l : Nat) k := cont_sz hp
  have hne : 0 < l.length → ((cont l : Nat) : Int) ≠ 0 := fun h e => by
    have h1 := cont_zero.1 (show cont l = 0 by omega)
    rw [dg_nm hn] at h1; omega
  have hcv : ∀ y, y < l.length → J ((l.map cn).getD y z0) = zd (if y < 0 then l.getD y 0 / (cont l : Int) else l.getD y 0) := fun y hy => by rw [map_cn_get hy, if_neg (Nat.not_lt_zero _)]; rfl
  have hce : ∀ y, y < l.length → zd (if y < l.length then l.getD y 0 / (cont l : Int) else l.getD y 0) = J (((redc l).map cn).getD y z0) := fun y hy => by
    rw [if_pos hy, map_cn_get (by rw [redc_len]; exact hy)]
    unfold redc
    rw [List.getD_eq_getElem?_getD (l := List.map _ _), List.getElem?_map, List.getD_eq_getElem?_getD, List.getElem?_eq_getElem hy]; rfl
  refine call_inline Tryz.func70 (by kernel_rfl) rfl (by kernel_rfl) (Nat.le_of_ble_eq_true rfl) ?_
  refine content_call 0 rfl hs hp (by omega) fun x1 => ?_
  refine alloc_rule (d := I false []) fun c hc => ?_
  refine store_box (d := zd (cont l : Nat)) 0 rfl hc rfl (by kernel_rfl) (Reads.fact (v := x1) (List.Mem.head _)) ?_
  refine len_own 1 rfl hs fun _ => ?_
  generalize ((cont l : Nat) : Int) = g at *
  refine loop_rule (X := Nat) (fun i => ([(0, v), (3, c), (8, .int .i64 ((l.map cn).length : Nat)), (9, .int .i64 (i : Nat))], own1 c 2 1 (fun _ => zd g) :: own1 v 2 l.length (fun y => zd (if y < i then l.getD y 0 / g else l.getD y 0)) :: os, fs)) (fun i => i ≤ l.length) (fun i => l.length - i) rfl ?_ ?_
  · exact again 0 (Nat.zero_le _) trivial qF (Seals.trans (Seals.box0 rfl) (Seals.trans (Seals.own_cong (os := own1 c 2 1 (fun _ => zd g) :: ownL 2 J z0 v (l.map cn) :: os) 1 (n' := l.length) (fun y => zd (if y < 0 then l.getD y 0 / g else l.getD y 0)) rfl hml fun y hy => hcv y (by rw [hml] at hy; exact hy)) (Seals.sub fun F hF => List.Mem.tail _ hF)))
  rintro i hi
  refine cmp_split _ rfl (fun hlt => ?_) (fun hlt => ?_)
  · have hin : i < l.length := by omega
    have hai := hp.get i
    have hg0 := hne (by omega)
    refine draw_ord [0, 1, 2, 3, 4, 5, 6, 7, 8, 9, 12, 13, 10, 11] (by kernel_rfl) ?_
    refine ord_go [0, 1, 2, 3, 4, 5, 6, 7, 8, 9, 10, 11, 12, 13] (by kernel_rfl) (by kernel_rfl) ?_
    refine index_elem 1 rfl hs i rfl (by omega) ?_
    refine load_elem' (d := zd (l.getD i 0)) 1 rfl i (by omega) (by rw [if_neg (by omega)]) (load_I _ _) fun y1 => ?_
    refine load_box (d := zd g) 0 rfl hc rfl (load_I _ _) fun y2 => ?_
    refine call_fn (zDivModZ y1 y2 _ _ _ _ hai hgs (by omega) (by omega) hg0) (Seals.refl _ _) qS ?_
    rintro _ _ _ ⟨rfl, y3, y4, rfl, rfl⟩
    refine index_elem 1 rfl hs i rfl (by omega) ?_
    refine StoreK.post (store_elem (d := zd (l.getD i 0 / g)) 1 rfl i (by omega) rfl (by kernel_rfl) (Reads.fact qM) ⟨_, _, Seals.own_cong (os := own1 c 2 1 (fun _ => zd g) :: _ :: os) 1 (fun y => zd (if y < i + 1 then l.getD y 0 / g else l.getD y 0)) rfl rfl (fun y _ => div_s l g i y), ?_⟩)
    refine ar rfl qI ?_
    exact again (i + 1) (by omega) (by simp only; omega) qF (Seals.trans (Seals.box0 rfl) (Seals.sub qD))
  · have hin : i = l.length := by omega
    subst hin
    exact fin kk (Seals.trans (Seals.drop 0 _ _) (Seals.own_cong (os := own1 v 2 l.length _ :: os) 0 (n' := ((redc l).map cn).length) (fun y => J (((redc l).map cn).getD y z0)) rfl (by rw [List.length_map, redc_len]) fun y hy => hce y hy))
theorem map_snoc {α β : Type} (f : α → β) (l : List α) (a : α) : l.map f ++ [f a] = (l ++ [a]).map f := by rw [List.map_append]; rfl
theorem szR.redc {k : Nat} {l : List Int} (h : szR k l) : szR k (redc l) := fun x hx => by
  unfold Go.Proofs.YtgpcepcbdpigfaaGreat.redc at hx
  obtain ⟨y, hy, rfl⟩ := List.mem_map.1 hx
  exact sz_div (h y hy)
theorem pDegreeL (v : Value) (l : List Int) (k : Nat) (h : szR k l) (hk : k ≤ 137438953472) :
    Meets Tryz.prog 25 [v] [(v, vd l)] (fun r os fs => os = [] ∧ fs = [] ∧ r = .int .i64 ((dg l : Nat) - 1 : Int)) := by
  have := pDegreeN v (l.map cn) (h.fit.mono hk)
  rw [vv_cn] at this; exact this
structure ChS where
  lv : Value
  nv : Value
  ls : List (List Int)
  nx : List Int
  e : Nat
def chK (k n : Nat) : Nat := ge (dvk k n + 1) n n
def SimOk (P : List Int) (K n : Nat) : Prop := ∀ s, SimSpec P s → ∃ e, szR e s ∧ s.length ≤ n ∧ ge (e + 1) n n ≤ K
theorem chain_meets (v : Value) (p : Row) (k N K n : Nat) (hp : Fit k p) (lp : p.length ≤ N) (hN : N ≤ 1048576) (hd0 : 0 < dg (vv p)) (hk : ge (k + 1) (N - 1) N + (k + 1) ≤ 137438953472) (hd : k + (N + 1) * (dvk (k + 1) N + 1) ≤ 137438953472)
    (hss : SimOk (vv p) K n) (hnN : n ≤ N) (hK : K * (n + 2) ≤ 34359738368) :
    Meets Tryz.prog 37 [v] [(v, V p)] (fun r os fs => os = [] ∧ ∃ s ls, SimSpec (vv p) s ∧ CH s ls [] ∧ (∀ l, l ∈ ls → szR K l ∧ l.length ≤ N) ∧ fs = [(r, wd ls)]) := by
  have hml : ∀ l : List Int, (l.map cn).length = l.length := fun l => List.length_map _
  have hK2 : K * 2 ≤ K * (n + 2) := Nat.mul_le_mul_left _ (by omega)
  refine meets_of_vc Tryz.func37 (by kernel_rfl) rfl (by kernel_rfl) (Nat.le_of_ble_eq_true rfl) ?_
  refine call_fn (pSimpleN_meets v p k N hp lp (by omega) hk hd) (Seals.refl _ _) qS ?_
  rintro x1 _ _ ⟨rfl, s, hs, _, rfl⟩
  obtain ⟨e0, zs, hsm, hKe⟩ := hss s hs
  have hn : n ≤ 1048576 := by omega
  have hge : e0 + 1 + 1 ≤ K := by
    refine Nat.le_trans ?_ hKe
    unfold ge
    exact Nat.le_mul_of_pos_right _ (Nat.mul_pos (Nat.pow_pos (by decide)) (Nat.pow_pos (by decide)))
  obtain ⟨gg, hg1, hg2⟩ := hs.ok hd0
  have hsd : 0 < dg s ∧ dg s ≤ dg (pprim (vv p)) := Dv.deg (a := s) (b := pprim (vv p)) ⟨gg, fun x => by rw [hg2]; exact Int.mul_comm _ _⟩ (by rw [pprim_dg]; exact hd0)
  rw [pprim_dg] at hsd
  have hsl : s.length = dg s := (dg_nm hs.sn).symm
  have hs0 : s ≠ [] := List.length_pos_iff.1 (by omega)
  refine buildSlice_own (size := 1) (n := 1) [x1] [V (s.map cn)] rfl rfl (by decide) (by decide) ⟨Reads.fact qM, rfl, trivial⟩ fun l0 hl0 => ?_
  refine index_elem 0 rfl hl0 0 rfl (by decide) ?_
  refine load_elem' (d := V (s.map cn)) 0 rfl 0 (by decide) rfl (load_P _) fun y1 => ?_
  refine call_fn (pDeriveT y1 s (e0) zs (by omega) (by omega)) (Seals.refl _ _) qS ?_
  rintro n0 _ _ ⟨rfl, rfl⟩
  refine loop_rule (X := ChS) (fun x => ([(3, x.lv), (4, x.nv)], [ownL 1 V [] x.lv (x.ls.map fun l => l.map cn)], [(x.nv, vd x.nx)]))
    (fun x => isSl x.lv ∧ CH s x.ls x.nx ∧ (∀ l, l ∈ x.ls → szR (K) l ∧ l.length ≤ n) ∧ szR x.e (chF x.ls x.nx (x.ls.length - 1)) ∧ szR x.e x.nx ∧ x.nx.length ≤ n ∧ e0 + 1 ≤ x.e ∧ x.e + 1 ≤ ge (e0 + 1) x.ls.length (dg s - dg (chF x.ls x.nx (x.ls.length - 1)))) (fun x => x.nx.length) rfl ?_ ?_
  · refine again ⟨l0, n0, [s], pder s, e0 + 1⟩ ⟨hl0, CH.start hs.sn hs0, fun l hl => ?_, zs.mono (Nat.le_succ _), zs.pder (by omega), ?_, Nat.le_refl _, ?_⟩ trivial qF (Seals.trans (Seals.own_cong (os := [_]) 0 (n' := 1) (fun i => V (([s].map fun l => l.map cn).getD i [])) rfl rfl fun i hi => ?_) (Seals.sub qS))
    · rw [List.mem_singleton.1 hl]; exact ⟨zs.mono (by omega), by omega⟩
    · have := pder_len s; show (pder s).length ≤ n; omega
    · show e0 + 1 + 1 ≤ ge (e0 + 1) 1 _
      unfold ge
      exact Nat.le_mul_of_pos_right _ (Nat.mul_pos (Nat.pow_pos (by decide)) (Nat.pow_pos (by decide)))
    · have : i = 0 := by omega
      subst this; rfl
  rintro ⟨lv, nv, ls, nx, e⟩ ⟨hlv, hc, hall, za, zb, lb, he1, he⟩
  simp only at hlv hc hall za zb lb he1 he ⊢
  have hln := hc.len
  have hsh := hc.short (ls.length - 1) (by omega)
  have hsh2 := hc.short ls.length (Nat.le_refl _)
  have hlow := hc.low (ls.length - 1) (by omega)
  rw [show ls.length - 1 + 1 = ls.length by omega] at hlow
  have hlast := chF_last ls nx
  rw [hlast] at hlow hsh2
  have han := hc.nm (ls.length - 1) (by omega)
  have hbn := hc.nm ls.length (Nat.le_refl _)
  rw [hlast] at hbn
  have hapos := hc.pos (ls.length - 1) (by omega)
  have hag : ls.getD (ls.length - 1) [] = chF ls nx (ls.length - 1) := (chF_lt (by omega)).symm
  have hstep := fun (h0 : nx ≠ []) T R h => hc.step (T := T) (R := R) h0 h
  refine len_vd qM ?_
  refine cmp_split _ rfl (fun hgt => ?_) (fun hgt => ?_)
  · have hb0 : 0 < nx.length := by omega
    have hnx : nx ≠ [] := List.length_pos_iff.1 hb0
    have hdb : dg nx = nx.length := dg_nm hbn
    have hda : dg (chF ls nx (ls.length - 1)) = (chF ls nx (ls.length - 1)).length := dg_nm han
    have he2 : e + 1 ≤ K := Nat.le_trans he (Nat.le_trans (ge_mono (by omega) (by omega)) hKe)
    have hstep' := hstep hnx
    generalize hA : chF ls nx (ls.length - 1) = A at *
    have hAl : A.length ≤ n := by omega
    have hre : ∀ j, j ≤ n + 1 → re e j ≤ 34359738368 := fun j hj => by
      unfold re
      have h1 : (e + 1) * (j + 1) ≤ K * (n + 2) := Nat.mul_le_mul he2 (by omega)
      have h2 : (e + 1) * (j + 1) = j * (e + 1) + (e + 1) := by rw [Nat.mul_add, Nat.mul_comm]; omega
      omega
    have hrest := fun a b => pRestOT a b A nx e za zb (by omega) (Nat.le_trans (hre _ (by omega)) (by decide)) (by omega) (by omega)
    have hj := ge_step (j := dg A + 1 - dg nx) (δ := dg A - dg nx) he (by omega)
    rw [show dg s - dg A + (dg A - dg nx) = dg s - dg nx by omega] at hj
    refine lit_L (size := 1) V [] (nx.map cn) (by decide) (Reads.fact (v := nv) (d := V (nx.map cn)) qM) rfl fun l1 => ?_
    refine append_L 0 rfl hlv (Knw.fact (v := l1) qM) (by simp; omega) (by simp; omega) fun lv2 hlv2 => ?_
    rw [map_snoc (fun l : List Int => l.map cn)]
    have hl2 : ((ls ++ [nx]).map fun l : List Int => l.map cn).length = ls.length + 1 := by simp
    have hel : ((ls ++ [nx]).map fun l : List Int => l.map cn).getD (ls.length - 1) [] = A.map cn := by
      rw [get_cn, ← chF_lt (nx := []) (by simp; omega), chF_snoc (by omega), hA]
    refine len_own 0 rfl hlv2 fun _ => ?_
    refine ar rfl qI ?_
    refine index_elem 0 rfl hlv2 (ls.length - 1) (by omega) (by omega) ?_
    refine load_elem' (d := V (A.map cn)) 0 rfl (ls.length - 1) (by omega) (by show V _ = _; rw [hel]) (load_P _) fun y2 => ?_
    refine call_fn (hrest y2 nv) (Seals.refl _ _) qS ?_
    rintro _ _ _ ⟨ta, rb, T, R, hrb, rfl, hR, rfl⟩
    rw [if_neg (by omega)] at hR
    obtain ⟨rfl, hspec, zT, zR, lT, lR⟩ := hR
    have hlast2 : ∀ y, chF (ls ++ [nx]) y ((ls ++ [nx]).length - 1) = nx := fun y => by
      rw [List.length_append, show ls.length + [nx].length - 1 = ls.length from Nat.add_sub_cancel _ _, chF_snoc (Nat.le_refl _), hlast]
    refine call_fn (pDegreeL y2 A e za (by omega)) (Seals.refl _ _) qS ?_
    rintro _ _ _ ⟨rfl, rfl, rfl⟩
    refine call_fn (pDegreeL nv nx e zb (by omega)) (Seals.refl _ _) qS ?_
    rintro _ _ _ ⟨rfl, rfl, rfl⟩
    refine ar rfl qI ?_
    refine ar (n := ((dg A + 1 - dg nx : Nat) : Int)) (congrArg some (by omega)) ⟨by omega, by omega⟩ ?_
    refine rem_rule (by omega) (by decide) ?_
    refine cmp_split _ rfl (fun hev => ?_) (fun hev => ?_)
    · have hcond : (dg A + 1 - dg nx) % 2 = 0 ∨ 0 < ld nx := .inl (by omega)
      have en : nxt A nx R = ptim (-1) R := if_pos hcond
      have hzz : szR (re e (dg A + 1 - dg nx)) (ptim (-1) R) := zR.neg
      refine call_fn (zof_meets (-1) (by decide) (by decide)) (Seals.refl _ _) qS ?_
      rintro u1 _ _ ⟨rfl, rfl⟩
      refine call_fn (pTimesOT rb u1 R (-1) _ 1 zR (sz_one _ (by decide)) (by have := hre (dg A + 1 - dg nx) (by omega); omega) (by omega)) (Seals.L 0 rfl hrb) qS ?_
      rintro r2 _ _ ⟨hr2, rfl, rfl⟩
      have hnn : Nm (ptim (-1) R) := by first | exact hspec.rn | (rw [← en]; exact nxt_nm hspec.rn)
      have hdn : dg (ptim (-1) R) = dg R := by first | rfl | (rw [← en]; exact nxt_dg _ _ _)
      have hll := dg_nm hnn
      have hstep2 := hstep' T R hspec
      rw [en] at hstep2
      have hlow2 := hspec.low
      refine reduced_call hr2 hnn hzz (hre _ (by omega)) ?_
      refine again ⟨lv2, r2, ls ++ [nx], redc (ptim (-1) R), re e (dg A + 1 - dg nx)⟩ ⟨hlv2, hstep2, fun l hl => ?_, ?_, hzz.redc, ?_, Nat.le_trans he1 (re_ge _ _), ?_⟩ ?_ qF (Seals.trans (Seals.toldL hr2) (Seals.sub qS))
      · rcases List.mem_append.1 hl with h | h
        · exact hall l h
        · rw [List.mem_singleton.1 h]; exact ⟨zb.mono (by omega), lb⟩
      · show szR _ (chF (ls ++ [nx]) _ ((ls ++ [nx]).length - 1))
        rw [hlast2]; exact zb.mono (re_ge _ _)
      · show (redc _).length ≤ n
        rw [redc_len, ← hll, hdn]; omega
      · show _ ≤ ge _ (ls ++ [nx]).length (dg s - dg (chF (ls ++ [nx]) _ ((ls ++ [nx]).length - 1)))
        rw [hlast2, List.length_append]; exact hj
      · show (redc _).length < nx.length
        rw [redc_len, ← hll, hdn]; omega
    · have hld : ld nx = nx.getD (nx.length - 1) 0 := by unfold ld; rw [hdb]
      refine len_vd qM ?_
      refine ar rfl qI ?_
      refine index_fact (v := nv) qM (nx.length - 1) (by omega) (by rw [List.length_map]; omega) fun a1 => ?_
      refine load_fact (d := J ((nx.map cn).getD (nx.length - 1) z0)) qM (load_J _) fun a2 => ?_
      have hsg : ∀ y, Meets Tryz.prog 42 [y] [(y, J ((nx.map cn).getD (nx.length - 1) z0))] (fun r os fs => os = [] ∧ fs = [] ∧ r = .int .i64 (ld nx).sign) := fun y => by
        rw [map_cn_get (by omega), hld]; exact zSignZ y _ e (zb.get _) (by omega)
      refine call_fn (hsg a2) (Seals.refl _ _) qS ?_
      rintro _ _ _ ⟨rfl, rfl, rfl⟩
      refine cmp_split _ rfl (fun hpos => ?_) (fun hpos => ?_)
      · have hcond : (dg A + 1 - dg nx) % 2 = 0 ∨ 0 < ld nx := .inr (by
          rcases Int.lt_trichotomy (ld nx) 0 with h | h | h
          · rw [sgn_neg h] at hpos; omega
          · rw [h] at hpos; simp at hpos
          · exact h)
        have en : nxt A nx R = ptim (-1) R := if_pos hcond
        have hzz : szR (re e (dg A + 1 - dg nx)) (ptim (-1) R) := zR.neg
        refine call_fn (zof_meets (-1) (by decide) (by decide)) (Seals.refl _ _) qS ?_
        rintro u1 _ _ ⟨rfl, rfl⟩
        refine call_fn (pTimesOT rb u1 R (-1) _ 1 zR (sz_one _ (by decide)) (by have := hre (dg A + 1 - dg nx) (by omega); omega) (by omega)) (Seals.L 0 rfl hrb) qS ?_
        rintro r2 _ _ ⟨hr2, rfl, rfl⟩
        have hnn : Nm (ptim (-1) R) := by first | exact hspec.rn | (rw [← en]; exact nxt_nm hspec.rn)
        have hdn : dg (ptim (-1) R) = dg R := by first | rfl | (rw [← en]; exact nxt_dg _ _ _)
        have hll := dg_nm hnn
        have hstep2 := hstep' T R hspec
        rw [en] at hstep2
        have hlow2 := hspec.low
        refine reduced_call hr2 hnn hzz (hre _ (by omega)) ?_
        refine again ⟨lv2, r2, ls ++ [nx], redc (ptim (-1) R), re e (dg A + 1 - dg nx)⟩ ⟨hlv2, hstep2, fun l hl => ?_, ?_, hzz.redc, ?_, Nat.le_trans he1 (re_ge _ _), ?_⟩ ?_ qF (Seals.trans (Seals.toldL hr2) (Seals.sub qS))
        · rcases List.mem_append.1 hl with h | h
          · exact hall l h
          · rw [List.mem_singleton.1 h]; exact ⟨zb.mono (by omega), lb⟩
        · show szR _ (chF (ls ++ [nx]) _ ((ls ++ [nx]).length - 1))
          rw [hlast2]; exact zb.mono (re_ge _ _)
        · show (redc _).length ≤ n
          rw [redc_len, ← hll, hdn]; omega
        · show _ ≤ ge _ (ls ++ [nx]).length (dg s - dg (chF (ls ++ [nx]) _ ((ls ++ [nx]).length - 1)))
          rw [hlast2, List.length_append]; exact hj
        · show (redc _).length < nx.length
          rw [redc_len, ← hll, hdn]; omega
      · have hcond : ¬ ((dg A + 1 - dg nx) % 2 = 0 ∨ 0 < ld nx) := fun h => by
          rcases h with h | h
          · omega
          · rw [sgn_pos h] at hpos; omega
        have en : nxt A nx R = R := if_neg hcond
        have hzz := zR
        have hnn : Nm (R) := by first | exact hspec.rn | (rw [← en]; exact nxt_nm hspec.rn)
        have hdn : dg (R) = dg R := by first | rfl | (rw [← en]; exact nxt_dg _ _ _)
        have hll := dg_nm hnn
        have hstep2 := hstep' T R hspec
        rw [en] at hstep2
        have hlow2 := hspec.low
        refine reduced_call hrb hnn hzz (hre _ (by omega)) ?_
        refine again ⟨lv2, rb, ls ++ [nx], redc (R), re e (dg A + 1 - dg nx)⟩ ⟨hlv2, hstep2, fun l hl => ?_, ?_, hzz.redc, ?_, Nat.le_trans he1 (re_ge _ _), ?_⟩ ?_ qF (Seals.trans (Seals.toldL hrb) (Seals.sub qS))
        · rcases List.mem_append.1 hl with h | h
          · exact hall l h
          · rw [List.mem_singleton.1 h]; exact ⟨zb.mono (by omega), lb⟩
        · show szR _ (chF (ls ++ [nx]) _ ((ls ++ [nx]).length - 1))
          rw [hlast2]; exact zb.mono (re_ge _ _)
        · show (redc _).length ≤ n
          rw [redc_len, ← hll, hdn]; omega
        · show _ ≤ ge _ (ls ++ [nx]).length (dg s - dg (chF (ls ++ [nx]) _ ((ls ++ [nx]).length - 1)))
          rw [hlast2, List.length_append]; exact hj
        · show (redc _).length < nx.length
          rw [redc_len, ← hll, hdn]; omega
  · obtain rfl : nx = [] := List.length_eq_zero_iff.1 (by omega)
    exact fin ⟨rfl, s, ls, hs, hc, fun l hl => ⟨(hall l hl).1, Nat.le_trans (hall l hl).2 hnN⟩, rfl⟩ (Seals.trans (Seals.L 0 rfl hlv) (Seals.sub qS))
open Go.RowKit
theorem vx_drop (ls : List (List Int)) (x : Int) : ∀ (e i : Nat), i + e = ls.length → vx (fun j => ls.getD j []) x i e = (ls.drop i).map fun l => pev l x
  | 0, i, h => by rw [List.drop_eq_nil_of_le (by omega)]; rfl
  | e + 1, i, h => by
    have hi : i < ls.length := by omega
    rw [List.drop_eq_getElem_cons hi, List.map_cons, ← vx_drop ls x e (i + 1) (by omega)]
    have : ls[i] = ls.getD i [] := by rw [List.getD_eq_getElem?_getD, List.getElem?_eq_getElem hi]; rfl
    rw [this]; rfl
def tns (ls : List (List Int)) (x : Int) : Nat := vs 0 (ls.map fun l => pev l x)
theorem tns_sV {ls : List (List Int)} (h : 1 ≤ ls.length) (x : Int) : tns ls x = sV (fun i => ls.getD i []) (ls.length - 1) x := by
  unfold tns sV
  rw [show ls.length - 1 + 1 = ls.length by omega, vx_drop ls x ls.length 0 (by omega), List.drop_zero]
theorem tns_le (ls : List (List Int)) (x : Int) : tns ls x ≤ ls.length - 1 := by
  unfold tns
  have := vs_len0 (ls.map fun l => pev l x)
  rwa [List.length_map] at this
theorem turnsT (v w : Value) (ls : List (List Int)) (x : Bool × List Nat) (k a n : Nat) (hm : ∀ l, l ∈ ls → szR k l ∧ l.length ≤ n) (hxl : Lim x.2) (hxa : x.2.length ≤ a) (hk : k + (n + 1) * (a + 1) ≤ 137438953472) (ln : n ≤ 1073741824) (lm : ls.length ≤ 1073741824) :
    Meets Tryz.prog 38 [v, w] [(v, wd ls), (w, J x)] (fun r os fs => os = [] ∧ fs = [] ∧ r = .int .i64 (tns ls (jv x) : Nat)) := by
  have h := turns_meets v w (ls.map fun l => l.map cn) x k a n (fun r hr => by
    obtain ⟨l, hl, rfl⟩ := List.mem_map.1 hr
    exact ⟨(hm l hl).1.fit, by rw [List.length_map]; exact (hm l hl).2⟩) hxl hxa hk ln (by rw [List.length_map]; exact lm)
  rw [List.map_map] at h
  have e : (ls.map ((fun r => pev (vv r) (jv x)) ∘ fun l => l.map cn)) = ls.map fun l => pev l (jv x) := List.map_congr_left fun l _ => by show pev (vv (l.map cn)) _ = _; rw [vv_cn]
  rw [e] at h
  exact h
structure ChOk (P : List Int) (k n a : Nat) : Prop where
  n1 : n ≤ 1048576
  k1 : ge (k + 1) (n - 1) n + (k + 1) ≤ 137438953472
  k2 : k + (n + 1) * (dvk (k + 1) n + 1) ≤ 137438953472
  k3 : ∃ K m, SimOk P K m ∧ m ≤ n ∧ K * (m + 2) ≤ 34359738368 ∧ K + (n + 1) * (a + 1) ≤ 137438953472
  k5 : k + (n + 1) * (a + 1) ≤ 137438953472
structure Ch0 (k n a : Nat) : Prop where
  n1 : n ≤ 1048576
  k1 : ge (k + 1) n n * (n + 2) ≤ 137438953472
  k2 : k + (n + 1) * (dvk (k + 1) n + 1) ≤ 137438953472
  k3 : chK k n * (n + 2) ≤ 34359738368
  k4 : chK k n + (n + 1) * (a + 1) ≤ 137438953472
  k5 : k + (n + 1) * (a + 1) ≤ 137438953472
theorem sim_sz {P s : List Int} {k n : Nat} (hP : szR k P) (hl : P.length ≤ n) (hn : n ≤ 1048576) (h : SimSpec P s) : szR (dvk k n) s ∧ s.length ≤ n := by
  by_cases h0 : dg P = 0
  · rw [h.zero h0]; exact ⟨fun x hx => by simp at hx, Nat.zero_le _⟩
  · obtain ⟨g, _, hg⟩ := h.ok (by omega)
    have hd := pprim_dg P
    have hdl := dg_le_len P
    have hv : Dv s (pprim P) := ⟨g, fun x => by rw [hg]; exact Int.mul_comm _ _⟩
    refine ⟨dv_szR hv (by omega) hP.pprim h.sn (by omega) (by omega), ?_⟩
    have := (hv.deg (by omega)).2
    rw [dg_nm h.sn] at this
    omega
theorem Ch0.of {p : Row} {k n a : Nat} (h : Ch0 k n a) (hp : Fit k p) (lp : p.length ≤ n) : ChOk (vv p) k n a :=
  ⟨h.n1, Nat.le_trans (ge_old _ _) h.k1, h.k2, ⟨chK k n, n, fun _ hs => ⟨dvk k n, (sim_sz hp.szR (by rw [vv_len]; exact lp) h.n1 hs).1, (sim_sz hp.szR (by rw [vv_len]; exact lp) h.n1 hs).2, Nat.le_refl _⟩, Nat.le_refl _, h.k3, h.k4⟩, h.k5⟩
structure CntSpec (p : List Int) (x y c e : Int) : Prop where
  bad : dg p = 0 ∨ y < x → c = 0 ∧ e = 1
  ok : 0 < dg p → x ≤ y → e = 0 ∧ ∃ s, SimSpec p s ∧ 0 < dg s ∧ c = rc s x y ∧ 0 ≤ c ∧ c < dg s ∧ ∃ L r, Chain L r ∧ L 0 = s
theorem count_meets (v w u : Value) (p : Row) (x y : Bool × List Nat) (k n a : Nat) (hp : Fit k p) (lp : p.length ≤ n) (hx : Lim x.2) (hxa : x.2.length ≤ a) (hy : Lim y.2) (hya : y.2.length ≤ a) (hk : ChOk (vv p) k n a) :
    Meets Tryz.prog 10 [v, w, u] [(v, V p), (w, J x), (u, J y)] (fun r os fs => os = [] ∧ fs = [] ∧ ∃ c e, r = .tuple #[.int .i64 c, .int .i64 e] ∧ CntSpec (vv p) (jv x) (jv y) c e) := by
  obtain ⟨z1, z2, z3, ⟨K, m, hss, hmn, z4, z5⟩, z6⟩ := hk
  have hka : k ≤ 137438953472 ∧ a ≤ 137438953472 := by
    have : (n + 1) * (a + 1) = n * (a + 1) + (a + 1) := Nat.add_one_mul _ _
    omega
  refine meets_of_vc Tryz.func10 (by kernel_rfl) rfl (by kernel_rfl) (Nat.le_of_ble_eq_true rfl) ?_
  refine box_rule (Reads.fact (d := J x) qM) fun q1 h1 => ?_
  refine box_rule (Reads.fact (d := J y) qM) fun q2 h2 => ?_
  refine call_fn (pDegreeN v p (hp.mono hka.1)) (Seals.refl _ _) qS ?_
  rintro _ _ _ ⟨rfl, rfl, rfl⟩
  have hpos := fun (h : 0 < dg (vv p)) => chain_meets v p k n K m hp lp z1 h z2 z3 hss hmn z4
  have hlsn : dg (vv p) ≤ n := Nat.le_trans (dg_le_len _) (by rw [vv_len]; exact lp)
  generalize hP : vv p = P at *
  refine cmp_split _ rfl (fun hz => ?_) (fun hz => ?_)
  · refine fin ⟨rfl, rfl, 0, 1, rfl, ⟨fun _ => ⟨rfl, rfl⟩, fun h => by omega⟩⟩ (Seals.trans (Seals.drop 0 _ _) (Seals.trans (Seals.drop 0 _ _) (Seals.nil _ _)))
  have hd0 : 0 < dg P := by omega
  refine load_box (d := J y) 0 rfl h2 rfl (load_J _) fun y1 => ?_
  refine load_box (d := J x) 1 rfl h1 rfl (load_J _) fun y2 => ?_
  refine call_fn (zCmpS y1 y2 y x hy hx (by omega) (by omega)) (Seals.refl _ _) qS ?_
  rintro _ _ _ ⟨rfl, rfl, rfl⟩
  refine cmp_split _ rfl (fun hlt => ?_) (fun hlt => ?_)
  · have hl : jv y < jv x := by
      rcases Int.lt_trichotomy (jv y - jv x) 0 with h | h | h
      · omega
      · rw [h] at hlt; simp at hlt
      · rw [sgn_pos h] at hlt; omega
    refine fin ⟨rfl, rfl, 0, 1, rfl, ⟨fun _ => ⟨rfl, rfl⟩, fun _ h => by omega⟩⟩ (Seals.trans (Seals.drop 0 _ _) (Seals.trans (Seals.drop 0 _ _) (Seals.nil _ _)))
  have hl : jv x ≤ jv y := by
    refine Int.not_lt.1 fun h => hlt ?_
    rw [sgn_neg (show jv y - jv x < 0 by omega)]; decide
  refine call_fn (hpos hd0) (Seals.refl _ _) qS ?_
  rintro lv _ _ ⟨rfl, s, ls, hs, hc, hall, rfl⟩
  obtain ⟨c1, c2, c3⟩ := hc.chain hd0 hs
  have hln := hc.len
  have hsd : dg s ≤ dg P := by
    obtain ⟨gg, hg1, hg2⟩ := hs.ok hd0
    have := Dv.deg (a := s) (b := pprim P) ⟨gg, fun x => by rw [hg2]; exact Int.mul_comm _ _⟩ (by rw [pprim_dg]; exact hd0)
    rw [pprim_dg] at this; exact this.2
  have ht := fun w (x : Bool × List Nat) (hx : Lim x.2) (hxa : x.2.length ≤ a) => turnsT lv w ls x K a n hall hx hxa z5 (by omega) (by omega)
  have hle := c1.le hl
  have hrc := rc_eq c1 c3 hl
  have hb := sV_le (fun i => ls.getD i []) (ls.length - 1) (jv x)
  rw [← tns_sV hln, ← tns_sV hln] at hrc hle
  rw [← tns_sV hln] at hb
  refine draw_rule [0, 1, 3, 4, 2, 5, 6, 7, 8] [0, 1, 2, 3, 4, 5, 6, 7, 8] (by kernel_rfl) (by kernel_rfl) ?_
  refine load_box (d := J x) 1 rfl h1 rfl (load_J _) fun y3 => ?_
  refine load_box (d := J y) 0 rfl h2 rfl (load_J _) fun y4 => ?_
  refine call_fn (ht y3 x hx hxa) (Seals.refl _ _) qS ?_
  rintro _ _ _ ⟨rfl, rfl, rfl⟩
  refine call_fn (ht y4 y hy hya) (Seals.refl _ _) qS ?_
  rintro _ _ _ ⟨rfl, rfl, rfl⟩
  refine ar rfl qI ?_
  refine fin ⟨rfl, rfl, _, 0, rfl, ⟨fun h => by omega, fun _ _ => ⟨rfl, s, hs, by omega, hrc.symm, by omega, by omega, _, _, c1, c3⟩⟩⟩ (Seals.trans (Seals.drop 0 _ _) (Seals.trans (Seals.drop 0 _ _) (Seals.nil _ _)))
open Go.RowKit
def pfx : Value → Nat → Value
  | .slice a _ c, k => .slice a k c
  | v, _ => v
theorem pfx_sl {v : Value} {k : Nat} (h : isSl v) : isSl (pfx v k) := by
  obtain ⟨a, n, c, rfl⟩ := h
  exact ⟨_, _, _, rfl⟩
theorem own_cases {G : Ctx} {os : List Own} {fs : List Fact} {w : World} {pos size n : Nat} {v : Value} {d : Nat → Dat} (hw : Holds G os fs w) (h : nthOwn os pos = some (own1 v size n d)) (hs : isSl v) (hsz : 0 < size) :
    (v = .slice none 0 0 ∧ n = 0) ∨ ∃ r cap, v = .slice (some ⟨r, 0, none⟩) n cap ∧ OwnRow (Good G.A os w) G.B w r size n cap d := by
  rcases hw.own _ (nthOwn_mem h) 0 Nat.zero_lt_one with h1 | h1 | ⟨r, h1, _⟩ | ⟨_, h2, _⟩
  · exact .inl h1
  · exact .inr h1
  · obtain ⟨_, _, _, rfl⟩ := hs; simp [own1] at h1
  · simp only [own1] at h2; omega
theorem slice_pfx {P : Program} {t e : TypeId} {v : Value} {size n : Nat} {d : Nat → Dat} {kk : IntKind} {x : Int} {os : List Own} {fs : List Fact} {K : Cont} [ht : TSl P t e size] (pos : Nat) (h : nthOwn os pos = some (own1 v size n d)) (hs : isSl v)
    (k : Nat) (hx : x = (k : Int)) (hk : k ≤ n) (hsz : 0 < size) (kf : K (pfx v k) os fs) : SliceK P t v none (some (.int kk x)) none os fs K := by
  subst hx
  refine ⟨fun G w hw => ⟨pfx v k, fs, fun w' _ => val_run ?_, kf, hw⟩⟩
  rcases own_cases hw h hs hsz with ⟨rfl, rfl⟩ | ⟨r, cap, rfl, h1, h2, _⟩
  · obtain rfl : k = 0 := by omega
    simp [Instr.sliceAt, run_underlying ht.und, Instr.slice, Instr.sliceBounds, Instr.sliceBound, asIntOf, run_sizeOf ht.size, pfx]
  · have h3 : (0 : Int) ≤ (k : Int) := by omega
    have h4 : (k : Int) ≤ (cap : Int) := by omega
    have h5 : Addr.add ⟨r, 0, none⟩ 0 = ⟨r, 0, none⟩ := by simp [add_none]
    by_cases hc : cap = 0
    · subst hc
      obtain rfl : k = 0 := by omega
      simp [Instr.sliceAt, run_underlying ht.und, Instr.slice, Instr.sliceBounds, Instr.sliceBound, asIntOf, run_sizeOf ht.size, pfx]
    · simp [Instr.sliceAt, run_underlying ht.und, Instr.slice, Instr.sliceBounds, Instr.sliceBound, asIntOf, h3, run_sizeOf ht.size, pfx, hc, h5]
      intro hcon; omega
theorem Seals.pfx {v : Value} {size n : Nat} {d : Nat → Dat} {os : List Own} {fs : List Fact} (pos : Nat) (h : nthOwn os pos = some (own1 v size n d)) (hs : isSl v) (k : Nat) (hk : k ≤ n) (hsz : 0 < size := by exact Nat.zero_lt_succ _) :
    Seals os fs (setOwn os pos (own1 (Go.Proofs.YtgpcepcbdpigfaaGreat.pfx v k) size k d)) fs := by
  intro G w hw
  have hv := own_cases hw h hs hsz
  have hb : vblk (Go.Proofs.YtgpcepcbdpigfaaGreat.pfx v k) = vblk v := by
    obtain ⟨a, m, c, rfl⟩ := hs
    cases a <;> rfl
  refine hw.step h rfl rfl rfl (Nat.le_refl _) (fun _ _ _ => rfl) (fun b hb' => .inl ?_) (fun i j b hi hj _ _ => by simp only [own1] at hi hj; omega) fun mono i hi => ?_
  · obtain ⟨i, hi, hbb⟩ := hb'
    exact ⟨i, hi, by simp only [own1] at hbb ⊢; rw [← hbb]; exact hb.symm⟩
  rcases hv with ⟨rfl, rfl⟩ | ⟨r, cap, rfl, b1, b2, b3, cur, t, b4, b5, b6⟩
  · obtain rfl : k = 0 := by omega
    exact .inl ⟨rfl, rfl⟩
  · exact .inr (.inl ⟨r, cap, rfl, b1, by simp only [own1]; omega, b3, cur, t, b4, b5, fun j hj => by
      simp only [own1] at hj
      obtain ⟨cs, c1, c2⟩ := b6 j (by omega)
      exact ⟨cs, mono _ _ c1, c2⟩⟩)
theorem store_part {P : Program} {ty : TypeId} {x v : Value} {k size : Nat} {e : Nat → Dat} {d d' : Dat} {os : List Own} {fs : List Fact} {K : Cont} (pos : Nat) (h : nthOwn os pos = some (own1 v size 1 e)) (hbx : isBox v) (hk : k + d.cells ≤ size) (hd0 : 0 < d.cells)
    (ht : (P.info? ty).map (·.size) = some d.cells) (hx : Reads os fs x d)
    (hd : ∀ S w cs cs', RdC S w (e 0) cs → RdC S w d cs' → RdC S w d' (cs.take k ++ cs' ++ cs.drop (k + cs'.length))) (k' : K undef (setOwn os pos (own1 v size 1 fun _ => d')) fs) : StoreK P ty (eptr v k) x os fs K := by
  obtain ⟨r, rfl⟩ := hbx
  refine ⟨fun G w hw => ?_⟩
  obtain ⟨cx, x1, x2⟩ := hx G w hw
  have hlx : cx.length = d.cells := RdC.length x1
  have hov := hw.own _ (nthOwn_mem h) 0 Nat.zero_lt_one
  obtain ⟨r', cap, hr⟩ := hov.row Nat.zero_lt_one
  have hrr : r' = r := by have := hr.blk; simp [own1, vblk] at this; exact this.symm
  subst hrr
  obtain ⟨b1, b2, b3, cur, t, b4, b5, b6⟩ := hr.row
  obtain ⟨cs, c1, c2, c3⟩ := b6 0 Nat.zero_lt_one
  have hcap : 1 ≤ cap := b2
  have hs : (own1 (.pointer (some ⟨r', 0, none⟩)) size 1 e).size = size := rfl
  have hfit : k + cx.length ≤ cur.size := by
    have : 1 * size ≤ cap * size := Nat.mul_le_mul_right _ hcap
    rw [b5, hs, hlx]; omega
  have he : eptr (.pointer (some ⟨r', 0, none⟩)) k = .pointer (some ⟨r', k, none⟩) := by simp [eptr, add_none]
  rw [he, unt_run (run_storeVar (cs := cx) x2 (RdC.oneCells x1) (by rw [hlx]; exact ht) b4 hfit)]
  refine ⟨_, _, k', ?_⟩
  have hhas : (own1 (.pointer (some ⟨r', 0, none⟩)) size 1 e).has r' := ⟨0, Nat.zero_lt_one, hr.blk⟩
  refine hw.step h rfl rfl rfl (by simp) (fun q hq hno => setRow_other w r' q _ fun e' => hno (e' ▸ hhas)) (fun b hb => .inl hb) (fun a b c ha hb _ _ => by
    have ha' : a < 1 := ha
    have hb' : b < 1 := hb
    omega) fun mono y hy => ?_
  have hy0 : y = 0 := by have : y < 1 := hy; omega
  subst hy0
  have hc1 : cap = 1 := by
    rcases hov with ⟨h1, h2⟩ | ⟨q, cap', h1, h2⟩ | ⟨q, h1, h2, h3⟩ | ⟨h1, _⟩
    · simp [own1] at h1
    · simp [own1] at h1
    · have : q = r' := by simp [own1] at h1; exact h1.symm
      subst this
      obtain ⟨_, _, _, cur', t', q4, q5, _⟩ := h3
      rw [b4] at q4
      simp only [Option.some.injEq, Obj.cells.injEq] at q4
      obtain ⟨rfl, _⟩ := q4
      rw [q5] at b5
      exact (Nat.eq_of_mul_eq_mul_right (show 0 < (own1 (.pointer (some ⟨q, 0, none⟩)) size 1 e).size by rw [hs]; omega) b5).symm
    · simp [own1] at h1
  subst hc1
  refine .inr (.inr (.inl ⟨r', rfl, rfl, b1, Nat.le_refl _, b3, _, t, setRow_heap w r' cur _ t _ b4, ?_, fun i hi => ?_⟩))
  · simp only [List.size_toArray, List.length_append, List.length_take, List.length_drop, Array.length_toList] at hfit ⊢
    rw [b5] at hfit ⊢
    show _ = 1 * size
    simp only [hs] at hfit ⊢
    omega
  · have hi0 : i = 0 := by omega
    subst hi0
    have hm := mono _ cs c1
    have hmx := mono _ cx x1
    have c2' : cs.length = size := c2
    refine ⟨cs.take k ++ cx ++ cs.drop (k + cx.length), hd _ _ _ _ hm hmx, by
      show _ = size
      simp only [List.length_append, List.length_take, List.length_drop]; omega, fun j hj => ?_⟩
    rw [List.getElem?_toArray, seg_get _ _ _ _ (by simpa using hfit)]
    have hj' : j < size := hj
    have c3' := c3 j hj'
    have c3'' : cur[0 * size + j]? = cs[j]? := c3'
    rw [Nat.zero_mul, Nat.zero_add] at c3''
    show (if k ≤ 0 * size + j ∧ 0 * size + j < k + cx.length then cx[0 * size + j - k]? else cur.toList[0 * size + j]?) = _
    have c4 : cur.toList[j]? = cs[j]? := by rw [Array.getElem?_toList]; exact c3''
    rw [Nat.zero_mul, Nat.zero_add, seg_get cs cx k j (by omega), c4]
class TStr2211 (P : Program) (t : TypeId) : Prop where
  und : ∃ fs f0 f1 f2 f3, P.underlying t = some (.struct fs) ∧ fs = #[f0, f1, f2, f3] ∧ f0.offset = 0 ∧ f1.offset = 2 ∧ f2.offset = 4 ∧ f3.offset = 5 ∧ (P.info? f0.type).map (·.size) = some 2 ∧ (P.info? f1.type).map (·.size) = some 2 ∧ (P.info? f2.type).map (·.size) = some 1 ∧ (P.info? f3.type).map (·.size) = some 1
  zero : ∃ i z0 z1 z2 z3 z4 z5, P.info? t = some i ∧ i.zero = some (.agg #[z0, z1, z2, z3, z4, z5])
theorem build_run2211 {P : Program} {t : TypeId} {a b c d : Value} {x y : Int} (ht : TStr2211 P t) (w : World) :
    (Instr.build t #[(0, .agg #[a, b]), (1, .agg #[c, d]), (2, .int .i64 x), (3, .int .i64 y)]).run P w = .ok (.agg #[a, b, c, d, .int .i64 x, .int .i64 y]) w := by
  obtain ⟨fs, f0, f1, f2, f3, h1, rfl, h3, h4, h5, h6, h7, h8, h9, h10⟩ := ht.und
  obtain ⟨i, z0, z1, z2, z3, z4, z5, k1, k2⟩ := ht.zero
  simp [Instr.build, zeroValue, typeInfo, k1, k2, run_underlying h1, run_sizeOf h7, run_sizeOf h8, run_sizeOf h9, run_sizeOf h10, h3, h4, h5, h6, Instr.fill, Value.cells, Array.zipIdx]
theorem RdC.two' {S : Nat → Prop} {w : World} {d1 d2 : Dat} {cs : List Value} (h : RdC S w (.cat d1 d2) cs) (hc : d1.cells + d2.cells = 2) : ∃ x y, cs = [x, y] := by
  have := RdC.length h
  simp only [Dat.cells, hc] at this
  match cs, this with
  | [x, y], _ => exact ⟨x, y, rfl⟩
theorem build2211 {P : Program} {t : TypeId} {a b : Value} {x y : Int} [ht : TStr2211 P t] {d1 d2 d3 d4 : Dat} {os : List Own} {fs : List Fact} {K : Cont} (ha : Knw os fs a (.cat d1 d2)) (hb : Knw os fs b (.cat d3 d4)) (ca : d1.cells + d2.cells = 2) (cb : d3.cells + d4.cells = 2)
    (k : ∀ v, K v os ((v, .cat (.cat d1 d2) (.cat (.cat d3 d4) (.cat (.one (.int .i64 x)) (.one (.int .i64 y))))) :: fs)) : BuildK P t [(0, a), (1, b), (2, .int .i64 x), (3, .int .i64 y)] os fs K := by
  refine ⟨fun G w hw => ?_⟩
  obtain ⟨c1, a1, rfl⟩ := ha G w hw
  obtain ⟨c2, b1, rfl⟩ := hb G w hw
  obtain ⟨p, q, rfl⟩ := RdC.two' a1 ca
  obtain ⟨r, s, rfl⟩ := RdC.two' b1 cb
  exact ⟨_, _, fun w' _ => val_run (build_run2211 ht w'), k _, hw.put ⟨[p, q, r, s, .int .i64 x, .int .i64 y], ⟨[p, q], [r, s, .int .i64 x, .int .i64 y], rfl, a1, ⟨[r, s], [.int .i64 x, .int .i64 y], rfl, b1, ⟨[.int .i64 x], [.int .i64 y], rfl, ⟨rfl, rfl⟩, ⟨rfl, rfl⟩⟩⟩⟩, rfl⟩⟩
open Go.RowKit
def pD (lo hi m n : Int) : Dat := .cat (zd lo) (.cat (zd hi) (.cat (.one (.int .i64 m)) (.one (.int .i64 n))))
theorem info_part : (Tryz.prog.info? 60).map (fun i => (i.zero, i.size, i.bytes)) = some (some (.agg #[.bool false, .slice none 0 0, .bool false, .slice none 0 0, .int .i64 0, .int .i64 0]), 6, 80) := by kernel_rfl
instance : TStr2211 Tryz.prog 60 := ⟨⟨_, _, _, _, _, Tryz.underlying60, rfl, rfl, rfl, rfl, rfl, by kernel_rfl, by kernel_rfl, by kernel_rfl, by kernel_rfl⟩, by
  obtain ⟨i, h1, _, _, h4⟩ := info_of info_part
  exact ⟨i, _, _, _, _, _, _, h1, h4⟩⟩
instance : TAgg Tryz.prog 60 6 := ⟨⟨_, Tryz.underlying60⟩, by kernel_rfl⟩
instance : TFld Tryz.prog 60 0 0 := ⟨_, _, Tryz.underlying60, rfl, rfl, 1, by kernel_rfl⟩
instance : TFld Tryz.prog 60 1 2 := ⟨_, _, Tryz.underlying60, rfl, rfl, 1, by kernel_rfl⟩
instance : TFld Tryz.prog 60 2 4 := ⟨_, _, Tryz.underlying60, rfl, rfl, 0, by kernel_rfl⟩
instance : TFld Tryz.prog 60 3 5 := ⟨_, _, Tryz.underlying60, rfl, rfl, 0, by kernel_rfl⟩
instance : TEl Tryz.prog 60 6 80 := tel info_part rfl (by decide)
instance : TSl Tryz.prog 62 60 6 := ⟨Tryz.underlying62, by kernel_rfl⟩
instance : TOne Tryz.prog 51 := ⟨⟨_, Tryz.underlying51, trivial⟩, by kernel_rfl⟩
theorem info_pp5 : (Tryz.prog.info? 51).map (fun i => (i.zero, i.size, i.bytes)) = some (some (.slice none 0 0), 1, 24) := by kernel_rfl
instance tzpp5 : TZero Tryz.prog 51 (.sl 1 0 fun _ => .one (.bool false)) := tzero info_pp5 fun S w => rd_nil S w 1 _
def pZ : Dat := .cat (I false []) (.cat (I false []) (.cat (.one (.int .i64 0)) (.one (.int .i64 0))))
instance tzPart : TZero Tryz.prog 60 pZ :=
  tzero info_part fun S w => ⟨[.bool false, .slice none 0 0], [.bool false, .slice none 0 0, .int .i64 0, .int .i64 0], rfl, ⟨[.bool false], [.slice none 0 0], rfl, rd_false S w, rd_nil S w 1 _⟩,
    ⟨[.bool false, .slice none 0 0], [.int .i64 0, .int .i64 0], rfl, ⟨[.bool false], [.slice none 0 0], rfl, rd_false S w, rd_nil S w 1 _⟩, ⟨[.int .i64 0], [.int .i64 0], rfl, ⟨rfl, rfl⟩, ⟨rfl, rfl⟩⟩⟩⟩
theorem load_pD (lo hi m n : Int) : LoadAs Tryz.prog 60 (pD lo hi m n) := (inferInstance : TAgg Tryz.prog 60 6)
theorem pD_lo {lo hi m n x : Int} (S : Nat → Prop) (w : World) (cs cs' : List Value) (h : RdC S w (pD lo hi m n) cs) (h' : RdC S w (zd x) cs') : RdC S w (pD x hi m n) (cs.take 0 ++ cs' ++ cs.drop (0 + cs'.length)) := by
  have hl : cs'.length = 2 := RdC.length h'
  obtain ⟨c1, c2, rfl, a1, a2⟩ := h
  have hl1 : c1.length = 2 := RdC.length a1
  refine ⟨cs', c2, ?_, h', a2⟩
  rw [List.take_zero, List.nil_append, hl, ← hl1]
  simp
theorem pD_hi {lo hi m n x : Int} (S : Nat → Prop) (w : World) (cs cs' : List Value) (h : RdC S w (pD lo hi m n) cs) (h' : RdC S w (zd x) cs') : RdC S w (pD lo x m n) (cs.take 2 ++ cs' ++ cs.drop (2 + cs'.length)) := by
  have hl : cs'.length = 2 := RdC.length h'
  obtain ⟨c1, c2, rfl, a1, c3, c4, rfl, a3, a4⟩ := h
  have hl1 : c1.length = 2 := RdC.length a1
  have hl3 : c3.length = 2 := RdC.length a3
  refine ⟨c1, cs' ++ c4, ?_, a1, cs', c4, rfl, h', a4⟩
  have e1 : (c1 ++ (c3 ++ c4)).take 2 = c1 := by rw [← hl1]; simp
  have e2 : (c1 ++ (c3 ++ c4)).drop (2 + cs'.length) = c4 := by
    rw [hl, ← List.append_assoc, show 2 + 2 = (c1 ++ c3).length by rw [List.length_append]; omega]
    exact List.drop_left
  rw [e1, e2, List.append_assoc]
theorem rtSignT (v w : Value) (l : List Int) (x : Int) (k a n : Nat) (hl : szR k l) (hx : sz x a) (hn : l.length ≤ n) (hk : k + (n + 1) * (a + 1) ≤ 137438953472) (ln : n ≤ 1073741824) :
    Meets Tryz.prog 13 [v, w] [(v, vd l), (w, zd x)] (fun r os fs => os = [] ∧ fs = [] ∧ r = .int .i64 (pev l x).sign) := by
  have hm : (l.length + 1) * (a + 1) ≤ (n + 1) * (a + 1) := Nat.mul_le_mul_right _ (by omega)
  have h := rtSign_meets v w (l.map cn) (cn x) k a hl.fit (Lim_lims _) hx.len (by rw [List.length_map]; omega) (by rw [List.length_map]; omega)
  rw [vv_cn, jv_cn] at h
  exact h
theorem sgn3b (y : Int) : y.sign = -1 ∨ y.sign = 0 ∨ y.sign = 1 := by
  rcases Int.lt_trichotomy y 0 with h | h | h
  · rw [sgn_neg h]; omega
  · rw [h]; simp
  · rw [sgn_pos h]; omega
theorem sgn0 {y : Int} : y.sign = 0 ↔ y = 0 := Int.sign_eq_zero_iff_zero
def manyV (s : List Int) (lo hi m n : Int) : Int := m - n + (if pev s lo = 0 then 1 else 0) - (if pev s hi = 0 then 1 else 0)
theorem many_meets (v b : Value) (ls : List (List Int)) (lo hi m n : Int) (k a N : Nat) (h1 : 1 ≤ ls.length) (hs : szR k (ls.getD 0 [])) (hN : (ls.getD 0 []).length ≤ N) (hlo : sz lo a) (hhi : sz hi a) (hk : k + (N + 1) * (a + 1) ≤ 137438953472) (lN : N ≤ 1073741824)
    (hm : 0 ≤ m ∧ m ≤ 1073741824) (hn : 0 ≤ n ∧ n ≤ 1073741824) :
    Meets Tryz.prog 46 [v, b] [(v, pD lo hi m n), (b, .ptr (wd ls))] (fun r os fs => os = [] ∧ fs = [] ∧ r = .int .i64 (manyV (ls.getD 0 []) lo hi m n)) := by
  have hsg : ∀ x, sz x a → ∀ y z, Meets Tryz.prog 13 [y, z] [(y, V ((ls.map fun l => l.map cn).getD 0 [])), (z, zd x)] (fun r os fs => os = [] ∧ fs = [] ∧ r = .int .i64 (pev (ls.getD 0 []) x).sign) := fun x hx y z => by
    rw [get_cn]; exact rtSignT y z _ x k a N hs hx hN hk lN
  have hsl := hsg lo hlo
  have hsh := hsg hi hhi
  refine meets_of_vc Tryz.func46 (by kernel_rfl) rfl (by kernel_rfl) (Nat.le_of_ble_eq_true rfl) ?_
  refine box_rule (Reads.fact (d := pD lo hi m n) qM) fun q hq => ?_
  refine field_box 0 rfl hq ?_
  refine load_box_field_one 0 rfl (Part.right (Part.right (Part.left (Part.refl _)))) ?_
  refine field_box 0 rfl hq ?_
  refine load_box_field_one 0 rfl (Part.right (Part.right (Part.right (Part.refl _)))) ?_
  refine ar rfl qI ?_
  refine draw_rule [0, 1, 2, 3, 4, 5, 6] [0, 1, 2, 3, 4, 5, 6] (by kernel_rfl) (by kernel_rfl) ?_
  refine load_fact (d := wd ls) qM (inferInstanceAs (TOne Tryz.prog 51)) fun y1 => ?_
  refine index_fact (v := y1) qM 0 rfl (by rw [List.length_map]; exact h1) fun y2 => ?_
  refine load_fact (d := V ((ls.map fun l => l.map cn).getD 0 [])) qM (load_P _) fun y3 => ?_
  refine field_box 0 rfl hq ?_
  refine load_box_field (d := zd lo) 0 rfl (Part.left (Part.refl _)) (load_I _ _) fun y4 => ?_
  refine call_fn (hsl y3 y4) (Seals.refl _ _) qS ?_
  rintro _ _ _ ⟨rfl, rfl, rfl⟩
  unfold manyV
  refine cmp_split _ rfl (fun e1 => ?_) (fun e1 => ?_)
  · rw [if_pos (sgn0.1 e1)]
    refine ar rfl qI ?_
    refine draw_rule [0, 1, 2, 3, 4, 5, 6] [0, 1, 2, 3, 4, 5, 6] (by kernel_rfl) (by kernel_rfl) ?_
    refine load_fact (d := wd ls) qM (inferInstanceAs (TOne Tryz.prog 51)) fun z1 => ?_
    refine index_fact (v := z1) qM 0 rfl (by rw [List.length_map]; exact h1) fun z2 => ?_
    refine load_fact (d := V ((ls.map fun l => l.map cn).getD 0 [])) qM (load_P _) fun z3 => ?_
    refine field_box 0 rfl hq ?_
    refine load_box_field (d := zd hi) 0 rfl (Part.right (Part.left (Part.refl _))) (load_I _ _) fun z4 => ?_
    refine call_fn (hsh z3 z4) (Seals.refl _ _) qS ?_
    rintro _ _ _ ⟨rfl, rfl, rfl⟩
    refine cmp_split _ rfl (fun e2 => ?_) (fun e2 => ?_)
    · rw [if_pos (sgn0.1 e2)]
      refine ar rfl qI ?_
      exact fin ⟨rfl, rfl, rfl⟩ (Seals.trans (Seals.drop 0 _ _) (Seals.nil _ _))
    · rw [if_neg (fun h => e2 (sgn0.2 h)), Int.sub_zero]
      exact fin ⟨rfl, rfl, rfl⟩ (Seals.trans (Seals.drop 0 _ _) (Seals.nil _ _))
  · rw [if_neg (fun h => e1 (sgn0.2 h)), Int.add_zero]
    refine draw_rule [0, 1, 2, 3, 4, 5, 6] [0, 1, 2, 3, 4, 5, 6] (by kernel_rfl) (by kernel_rfl) ?_
    refine load_fact (d := wd ls) qM (inferInstanceAs (TOne Tryz.prog 51)) fun z1 => ?_
    refine index_fact (v := z1) qM 0 rfl (by rw [List.length_map]; exact h1) fun z2 => ?_
    refine load_fact (d := V ((ls.map fun l => l.map cn).getD 0 [])) qM (load_P _) fun z3 => ?_
    refine field_box 0 rfl hq ?_
    refine load_box_field (d := zd hi) 0 rfl (Part.right (Part.left (Part.refl _))) (load_I _ _) fun z4 => ?_
    refine call_fn (hsh z3 z4) (Seals.refl _ _) qS ?_
    rintro _ _ _ ⟨rfl, rfl, rfl⟩
    refine cmp_split _ rfl (fun e2 => ?_) (fun e2 => ?_)
    · rw [if_pos (sgn0.1 e2)]
      refine ar rfl qI ?_
      exact fin ⟨rfl, rfl, rfl⟩ (Seals.trans (Seals.drop 0 _ _) (Seals.nil _ _))
    · rw [if_neg (fun h => e2 (sgn0.2 h)), Int.sub_zero]
      exact fin ⟨rfl, rfl, rfl⟩ (Seals.trans (Seals.drop 0 _ _) (Seals.nil _ _))
open Go.RowKit
theorem sz_btw {lo hi x : Int} {a : Nat} (h1 : sz lo a) (h2 : sz hi a) (h3 : lo ≤ x) (h4 : x ≤ hi) : sz x a := by
  unfold sz at *; omega
theorem zShrZ (v : Value) (x : Int) (a : Nat) (hx : sz x a) (ha : a ≤ 137438953472) :
    Meets Tryz.prog 49 [v, .int .i64 1] [(v, zd x)] (fun r os fs => os = [] ∧ fs = [(r, zd (x / 2))]) := by
  have h := zShr1 v (decide (x < 0)) (lims x.natAbs) (Lim_lims _) (Nat.le_trans hx.len ha)
  rw [iv_zd] at h
  exact h
theorem zAddZ2 (v w : Value) (x y : Int) (a : Nat) (hx : sz x a) (hy : sz y a) (ha : a ≤ 137438953471) :
    Meets Tryz.prog 29 [v, w] [(v, zd x), (w, zd y)] (fun r os fs => os = [] ∧ fs = [(r, zd (x + y))]) := zAddZ v w x y a a hx hy (by omega) (by omega)
theorem zCmpZS (v w : Value) (x y : Int) (a : Nat) (hx : sz x a) (hy : sz y a) (ha : a ≤ 137438953472) :
    Meets Tryz.prog 26 [v, w] [(v, zd x), (w, zd y)] (fun r os fs => os = [] ∧ fs = [] ∧ r = .int .i64 (x - y).sign) := by
  have h := zCmpS v w (cn x) (cn y) (Lim_lims _) (Lim_lims _) (Nat.le_trans hx.len ha) (Nat.le_trans hy.len ha)
  rw [jv_cn, jv_cn] at h
  exact h
theorem sgn_lt {y : Int} : y.sign < 0 ↔ y < 0 := by
  rcases Int.lt_trichotomy y 0 with h | h | h
  · rw [sgn_neg h]; omega
  · rw [h]; simp
  · rw [sgn_pos h]; omega
theorem sgn_opp {s t : Int} (ht : t ≠ 0) : s.sign = -t.sign ↔ t * s < 0 := by
  rw [Int.mul_comm, ← sgn_mul]
  constructor
  · intro h
    refine ⟨fun e => ht (sgn0.1 (by omega)), h⟩
  · exact fun h => h.2
theorem alone_meets (v w : Value) (l : List Int) (lo hi m n : Int) (k a N : Nat) (I0 : Int → Int → Prop) (hl : szR k l) (hN : l.length ≤ N) (hlo : sz lo a) (hhi : sz hi a) (ha : 1 ≤ a) (hk : k + (N + 1) * (a + 1) ≤ 137438953472) (lN : N ≤ 1073741824)
    (hak : a + 2 ≤ 137438953471) (h0 : I0 lo hi) (hlt : lo < hi) (hst : ∀ x y, I0 x y → lo ≤ x → y ≤ hi → x + 1 < y → pev l x ≠ 0 → if pev l x * pev l ((x + y) / 2) < 0 then I0 x ((x + y) / 2) else I0 ((x + y) / 2) y) :
    Meets Tryz.prog 48 [v, w] [(v, vd l), (w, pD lo hi m n)] (fun r os fs => os = [] ∧ ∃ x y, lo ≤ x ∧ x < y ∧ y ≤ hi ∧ I0 x y ∧ (pev l x = 0 ∨ y = x + 1) ∧ fs = [(r, zd x)]) := by
  have hsg := fun u u' x hx => rtSignT u u' l x k a N hl hx hN hk lN
  refine meets_of_vc Tryz.func48 (by kernel_rfl) rfl (by kernel_rfl) (Nat.le_of_ble_eq_true rfl) ?_
  refine box_rule (Reads.fact (d := pD lo hi m n) qM) fun q hq => ?_
  refine alloc_rule (d := I false []) fun o ho => ?_
  refine field_box 1 rfl hq ?_
  refine load_box_field (d := zd lo) 1 rfl (Part.left (Part.refl _)) (load_I _ _) fun f1 => ?_
  refine call_fn (hsg v f1 lo hlo) (Seals.refl _ _) qS ?_
  rintro _ _ _ ⟨rfl, rfl, rfl⟩
  refine loop_rule (X := Int × Int) (fun x => ([(0, v), (3, q), (4, o), (5, .int .i64 (pev l x.1).sign)], [own1 o 2 1 (fun _ => I false []), own1 q 6 1 (fun _ => pD x.1 x.2 m n)], [(v, vd l)]))
    (fun x => lo ≤ x.1 ∧ x.1 < x.2 ∧ x.2 ≤ hi ∧ I0 x.1 x.2) (fun x => (x.2 - x.1).toNat) rfl ?_ ?_
  · exact again (lo, hi) ⟨Int.le_refl _, hlt, Int.le_refl _, h0⟩ trivial qF (Seals.trans (Seals.box1 rfl) (Seals.sub qS))
  rintro ⟨x, y⟩ ⟨g1, g2, g3, g4⟩
  simp only at g1 g2 g3 g4 ⊢
  have zx : sz x a := sz_btw hlo hhi g1 (by omega)
  have zy : sz y a := sz_btw hlo hhi (by omega) g3
  have zx1 : sz (x + 1) a := sz_btw hlo hhi (by omega) (by omega)
  have hb := sgn3b (pev l x)
  refine draw_rule [0, 1, 2, 3, 4, 7, 8, 5, 6, 9, 10, 11] [0, 1, 2, 3, 4, 5, 6, 7, 8, 9, 10, 11] (by kernel_rfl) (by kernel_rfl) ?_
  refine cmp_split _ rfl (fun e0 => ?_) (fun e0 => ?_)
  · have hne : pev l x ≠ 0 := fun e => e0 (sgn0.2 e)
    refine field_box 1 rfl hq ?_
    refine load_box_field (d := zd x) 1 rfl (Part.left (Part.refl _)) (load_I _ _) fun y1 => ?_
    refine field_box 1 rfl hq ?_
    refine load_box_field (d := zd y) 1 rfl (Part.right (Part.left (Part.refl _))) (load_I _ _) fun y2 => ?_
    refine call_fn (zof_meets 1 (by decide) (by decide)) (Seals.refl _ _) qS ?_
    rintro y3 _ _ ⟨rfl, rfl⟩
    refine call_fn (zAddZ2 y1 y3 x 1 a zx ((sz_one 1 (by decide)).mono ha) (by omega)) (Seals.refl _ _) qS ?_
    rintro y4 _ _ ⟨rfl, rfl⟩
    refine call_fn (zCmpZS y4 y2 (x + 1) y a zx1 zy (by omega)) (Seals.refl _ _) qS ?_
    rintro _ _ _ ⟨rfl, rfl, rfl⟩
    refine cmp_split _ rfl (fun e1 => ?_) (fun e1 => ?_)
    · have hw : x + 1 < y := by have := sgn_lt.1 e1; omega
      have hmid : x < (x + y) / 2 ∧ (x + y) / 2 < y := by omega
      have zs : sz (x + y) (a + 1) := by
        have := sz_sub zx zy.neg
        rwa [Int.sub_neg] at this
      have zm : sz ((x + y) / 2) a := sz_btw zx zy (by omega) (by omega)
      have hstep := hst x y g4 g1 g3 hw hne
      refine field_box 1 rfl hq ?_
      refine load_box_field (d := zd x) 1 rfl (Part.left (Part.refl _)) (load_I _ _) fun y5 => ?_
      refine field_box 1 rfl hq ?_
      refine load_box_field (d := zd y) 1 rfl (Part.right (Part.left (Part.refl _))) (load_I _ _) fun y6 => ?_
      refine call_fn (zAddZ2 y5 y6 x y a zx zy (by omega)) (Seals.refl _ _) qS ?_
      rintro y7 _ _ ⟨rfl, rfl⟩
      refine call_fn (zShrZ y7 (x + y) (a + 1) zs (by omega)) (Seals.refl _ _) qS ?_
      rintro y8 _ _ ⟨rfl, rfl⟩
      generalize hM : (x + y) / 2 = M at *
      refine alloc_rule (d := I false []) fun mb hmb => ?_
      refine store_box (d := zd M) 0 rfl hmb rfl (by kernel_rfl) (Reads.fact (v := y8) qM) ?_
      refine load_box (d := zd M) 0 rfl hmb rfl (load_I _ _) fun y9 => ?_
      refine call_fn (hsg v y9 M zm) (Seals.refl _ _) qS ?_
      rintro _ _ _ ⟨rfl, rfl, rfl⟩
      refine un_neg (m := -(pev l x).sign) (by rw [wrap_in (show inK .i64 (0 - (pev l x).sign) from ⟨by omega, by omega⟩)]; omega) ?_
      refine cmp_split _ rfl (fun e2 => ?_) (fun e2 => ?_)
      · rw [if_pos ((sgn_opp hne).1 e2)] at hstep
        refine load_box (d := zd M) 0 rfl hmb rfl (load_I _ _) fun z1 => ?_
        refine field_box 2 rfl hq ?_
        refine store_part (d := zd M) (d' := pD x M m n) 2 rfl hq (by show _ + 2 ≤ 6; omega) (Nat.zero_lt_succ _) (by kernel_rfl) (Reads.fact (v := z1) qM) pD_hi ?_
        exact again (x, M) ⟨g1, by simp only; omega, by simp only; omega, hstep⟩ (by simp only; omega) qF (Seals.trans (Seals.drop 0 _ _) (Seals.sub (fs' := [(v, vd l)]) qS))
      · rw [if_neg (fun h => e2 ((sgn_opp hne).2 h))] at hstep
        refine draw_rule [0, 1, 2, 4, 3, 5, 6] [0, 1, 2, 3, 4, 5, 6] (by kernel_rfl) (by kernel_rfl) ?_
        refine load_box (d := zd M) 0 rfl hmb rfl (load_I _ _) fun z1 => ?_
        refine load_box (d := zd M) 0 rfl hmb rfl (load_I _ _) fun z2 => ?_
        refine field_box 2 rfl hq ?_
        refine call_fn (hsg v z2 M zm) (Seals.refl _ _) qS ?_
        rintro _ _ _ ⟨rfl, rfl, rfl⟩
        refine store_part (d := zd M) (d' := pD M y m n) 2 rfl hq (by show _ + 2 ≤ 6; omega) (Nat.zero_lt_succ _) (by kernel_rfl) (Reads.fact (v := z1) qM) pD_lo ?_
        exact again (M, y) ⟨by simp only; omega, by simp only; omega, g3, hstep⟩ (by simp only; omega) qF (Seals.trans (Seals.drop 0 _ _) (Seals.sub (fs' := [(v, vd l)]) qS))
    · have hw : y = x + 1 := by
        have : ¬ x + 1 - y < 0 := fun h => e1 (sgn_lt.2 h)
        omega
      refine field_box 1 rfl hq ?_
      refine load_box_field (d := zd x) 1 rfl (Part.left (Part.refl _)) (load_I _ _) fun u1 => ?_
      refine store_box (d := zd x) 0 rfl ho rfl (by kernel_rfl) (Reads.fact (v := u1) qM) ?_
      refine load_box (d := zd x) 0 rfl ho rfl (load_I _ _) fun r => ?_
      exact fin ⟨rfl, x, y, g1, g2, g3, g4, .inr hw, rfl⟩ (Seals.trans (Seals.drop 0 _ _) (Seals.trans (Seals.drop 0 _ _) (Seals.sub (fs' := [(r, zd x)]) qS)))
  · have hz : pev l x = 0 := sgn0.1 (by omega)
    refine field_box 1 rfl hq ?_
    refine load_box_field (d := zd x) 1 rfl (Part.left (Part.refl _)) (load_I _ _) fun u1 => ?_
    refine store_box (d := zd x) 0 rfl ho rfl (by kernel_rfl) (Reads.fact (v := u1) qM) ?_
    refine load_box (d := zd x) 0 rfl ho rfl (load_I _ _) fun r => ?_
    exact fin ⟨rfl, x, y, g1, g2, g3, g4, .inl hz, rfl⟩ (Seals.trans (Seals.drop 0 _ _) (Seals.trans (Seals.drop 0 _ _) (Seals.sub (fs' := [(r, zd x)]) qS)))
end Go.Proofs.YtgpcepcbdpigfaaGreat
namespace Go.Proofs.YtgpcepcbdpigfaaGreat
structure ChL (ls : List (List Int)) : Prop where
  len : 1 ≤ ls.length
  ch : Chain (fun i => ls.getD i []) (ls.length - 1)
def cnt (ls : List (List Int)) (x y : Int) : Int := manyV (ls.getD 0 []) x y (tns ls x : Nat) (tns ls y : Nat)
theorem cnt_add (ls : List (List Int)) (x y z : Int) : cnt ls x z = cnt ls x y + cnt ls y z := by unfold cnt manyV; omega
theorem ChL.less {ls : List (List Int)} (h : ChL ls) {x y : Int} (hxy : x < y) : (tns ls y : Int) + (if pev (ls.getD 0 []) y = 0 then 1 else 0) ≤ tns ls x := by
  have := h.ch.less hxy
  rw [← tns_sV h.len, ← tns_sV h.len] at this
  have this' : tns ls y + (if pev (ls.getD 0 []) y = 0 then 1 else 0) ≤ tns ls x := this
  by_cases e : pev (ls.getD 0 []) y = 0
  · rw [if_pos e] at this' ⊢; omega
  · rw [if_neg e] at this' ⊢; omega
theorem ChL.nn {ls : List (List Int)} (h : ChL ls) {x y : Int} (hxy : x < y) : (if pev (ls.getD 0 []) x = 0 then 1 else 0) ≤ cnt ls x y := by
  have := h.less hxy
  unfold cnt manyV
  omega
theorem ChL.nn0 {ls : List (List Int)} (h : ChL ls) {x y : Int} (hxy : x ≤ y) : 0 ≤ cnt ls x y := by
  by_cases e : x = y
  · rw [e]; unfold cnt manyV; omega
  · have := h.nn (show x < y by omega)
    split at this <;> omega
theorem ChL.par {ls : List (List Int)} (h : ChL ls) : ∃ k, k ≠ 0 ∧ ∀ x, pev (ls.getD 0 []) x ≠ 0 → (tns ls x) % 2 = if pev (ls.getD 0 []) x * k < 0 then 1 else 0 := by
  obtain ⟨k, hk, e⟩ := h.ch.last
  refine ⟨k, hk, fun x hx => ?_⟩
  have e' : ls.getD (ls.length - 1) [] = [k] := e
  have hl := h.len
  by_cases h1 : ls.length = 1
  · have e2 : ls.getD 0 [] = [k] := by rw [← e', h1]
    obtain ⟨a, ha⟩ := List.length_eq_one_iff.1 h1
    subst ha
    have e3 : a = [k] := e2
    subst e3
    have : 0 < k * k := by
      rcases Int.lt_trichotomy k 0 with g | g | g
      · exact Int.mul_pos_of_neg_of_neg g g
      · exact absurd g hk
      · exact Int.mul_pos g g
    have e4 : pev ([[k]].getD 0 []) x = k := by simp [pev]
    rw [e4, if_neg (by omega)]
    simp [tns, vs, pev]
  · -- the head, the middle, the last
    cases ls with
    | nil => simp at hl
    | cons s r =>
      have hr : 0 < r.length := by
        have : (s :: r).length = r.length + 1 := rfl
        omega
      have hs : (s :: r).getD 0 [] = s := rfl
      rw [hs] at hx ⊢
      have hlast : r = r.take (r.length - 1) ++ [[k]] := by
        have h2 : r.getD (r.length - 1) [] = [k] := by
          have : (s :: r).getD ((s :: r).length - 1) [] = r.getD (r.length - 1) [] := by
            rw [show (s :: r).length - 1 = (r.length - 1) + 1 by simp only [List.length_cons]; omega]; rfl
          rw [← this]; exact e'
        conv => lhs; rw [← List.take_length (l := r), show r.length = (r.length - 1) + 1 by omega, List.take_add_one]
        rw [List.getD_eq_getElem?_getD, List.getElem?_eq_getElem (by omega)] at h2
        rw [List.getElem?_eq_getElem (by omega)]
        have h3 : r[r.length - 1] = [k] := h2
        rw [h3]; rfl
      have h3 : tns (s :: r) x = vs (pev s x) (((r.take (r.length - 1)).map fun l => pev l x) ++ [k]) := by
        unfold tns
        rw [List.map_cons]
        simp only [vs, Int.mul_zero, Int.lt_irrefl, if_false, if_neg hx, Nat.zero_add]
        conv => lhs; rw [hlast]
        rw [List.map_append]
        simp [pev]
      rw [h3]
      exact vs_par _ _ _ hx hk
theorem sgn_tri {x t k : Int} (h0 : x ≠ 0) (ht : t ≠ 0) (hk : k ≠ 0) : t * k < 0 ↔ (t * x < 0 ↔ ¬ k * x < 0) := by
  have n1 := Int.mul_ne_zero ht h0
  have n2 := Int.mul_ne_zero hk h0
  have n3 := Int.mul_ne_zero ht hk
  have hxx : 0 < x * x := by
    rcases Int.lt_trichotomy x 0 with k | k | k
    · exact Int.mul_pos_of_neg_of_neg k k
    · exact absurd k h0
    · exact Int.mul_pos k k
  have e : (t * x) * (k * x) = (x * x) * (t * k) := by grind
  constructor
  · intro h
    have h1 : (t * x) * (k * x) < 0 := by rw [e]; exact Int.mul_neg_of_pos_of_neg hxx h
    constructor
    · intro h2 h3; have := Int.mul_pos_of_neg_of_neg h2 h3; omega
    · intro h2
      have h3 : 0 < k * x := by omega
      exact Int.lt_of_not_ge fun k' => by have := Int.mul_nonneg k' (Int.le_of_lt h3); omega
  · intro h
    refine Int.lt_of_not_ge fun h' => ?_
    have h1 : 0 < (t * x) * (k * x) := by rw [e]; exact Int.mul_pos hxx (by omega)
    by_cases h2 : t * x < 0
    · have h3 := h.1 h2
      have := Int.mul_nonpos_of_nonpos_of_nonneg (Int.le_of_lt h2) (show 0 ≤ k * x by omega)
      omega
    · have h3 : k * x < 0 := Classical.byContradiction fun h3 => h2 (h.2 h3)
      have := Int.mul_nonpos_of_nonneg_of_nonpos (show 0 ≤ t * x by omega) (Int.le_of_lt h3)
      omega
theorem ChL.odd {ls : List (List Int)} (h : ChL ls) {x y : Int} (hx : pev (ls.getD 0 []) x ≠ 0) (hy : pev (ls.getD 0 []) y ≠ 0) (_ : x ≤ y) : (cnt ls x y % 2 = 1 ↔ pev (ls.getD 0 []) x * pev (ls.getD 0 []) y < 0) := by
  obtain ⟨k, hk, hp⟩ := h.par
  have h1 := hp x hx
  have h2 := hp y hy
  have e : cnt ls x y = (tns ls x : Int) - tns ls y := by
    unfold cnt manyV; rw [if_neg hx, if_neg hy]; omega
  rw [e, sgn_tri hk hx hy]
  by_cases a : pev (ls.getD 0 []) x * k < 0 <;> by_cases b : pev (ls.getD 0 []) y * k < 0 <;> simp only [a, b, if_true, if_false] at h1 h2 ⊢ <;> constructor <;> intro g <;> first | omega | simp | (exfalso; simp at g)
theorem ChL.half {ls : List (List Int)} (h : ChL ls) {x m y : Int} (h1 : x < m) (h2 : m < y) (hc : cnt ls x y = 1) (hx : pev (ls.getD 0 []) x ≠ 0) :
    if pev (ls.getD 0 []) x * pev (ls.getD 0 []) m < 0 then cnt ls x m = 1 else cnt ls m y = 1 := by
  have ha := cnt_add ls x m y
  have p1 := h.nn0 (show x ≤ m by omega)
  have p2 := h.nn h2
  by_cases hm : pev (ls.getD 0 []) m = 0
  · rw [if_neg (by rw [hm, Int.mul_zero]; omega)]
    rw [if_pos hm] at p2; omega
  · rw [if_neg hm] at p2
    have ho := h.odd hx hm (by omega)
    split
    · rename_i hs
      have := ho.2 hs; omega
    · rename_i hs
      have : ¬ cnt ls x m % 2 = 1 := fun g => hs (ho.1 g)
      omega
def Stk : List (Int × Int) → Int → Int → Prop
  | [], b, e => b = e
  | p :: r, b, e => p.1 = b ∧ p.1 < p.2 ∧ Stk r p.2 e
theorem Stk.le : ∀ {l : List (Int × Int)} {b e : Int}, Stk l b e → b + l.length ≤ e
  | [], b, e, h => by have : b = e := h; simp; omega
  | p :: r, b, e, h => by
    have := Stk.le h.2.2
    have h1 := h.1
    have h2 := h.2.1
    simp only [List.length_cons]; omega
theorem Stk.mem : ∀ {l : List (Int × Int)} {b e : Int}, Stk l b e → ∀ p, p ∈ l → b ≤ p.1 ∧ p.1 < p.2 ∧ p.2 ≤ e
  | [], _, _, _, p, hp => by simp at hp
  | q :: r, b, e, h, p, hp => by
    have h1 := h.1
    have h2 := h.2.1
    have h3 := Stk.le h.2.2
    rcases List.mem_cons.1 hp with rfl | hp
    · omega
    · have := Stk.mem h.2.2 p hp; omega
def Rise : List Int → Prop
  | [] => True
  | a :: l => (∀ x, x ∈ l → a < x) ∧ Rise l
theorem Rise.snoc : ∀ {l : List Int} {a : Int}, Rise l → (∀ x, x ∈ l → x < a) → Rise (l ++ [a])
  | [], a, _, _ => ⟨fun x hx => by simp at hx, trivial⟩
  | b :: l, a, h, g => ⟨fun x hx => by
      rcases List.mem_append.1 hx with hx | hx
      · exact h.1 x hx
      · rw [List.mem_singleton.1 hx]; exact g b (List.mem_cons_self ..), Rise.snoc h.2 fun x hx => g x (List.mem_cons_of_mem _ hx)⟩
theorem Rise.ext : ∀ {l m : List Int}, Rise l → Rise m → (∀ x, x ∈ l ↔ x ∈ m) → l = m
  | [], [], _, _, _ => rfl
  | [], b :: m, _, _, h => by have := (h b).2 (List.mem_cons_self ..); simp at this
  | a :: l, [], _, _, h => by have := (h a).1 (List.mem_cons_self ..); simp at this
  | a :: l, b :: m, h1, h2, h => by
    have e : a = b := by
      have x1 := (h a).1 (List.mem_cons_self ..)
      have x2 := (h b).2 (List.mem_cons_self ..)
      rcases List.mem_cons.1 x1 with x1 | x1
      · exact x1
      · rcases List.mem_cons.1 x2 with x2 | x2
        · exact x2.symm
        · have := h2.1 a x1; have := h1.1 b x2; omega
    subst e
    rw [Rise.ext h1.2 h2.2 fun x => ?_]
    constructor
    · intro hx
      rcases List.mem_cons.1 ((h x).1 (List.mem_cons_of_mem _ hx)) with e | hx'
      · have := h1.1 x hx; omega
      · exact hx'
    · intro hx
      rcases List.mem_cons.1 ((h x).2 (List.mem_cons_of_mem _ hx)) with e | hx'
      · have := h2.1 x hx; omega
      · exact hx'
structure Flr (ls : List (List Int)) (lo b : Int) (O : List Int) : Prop where
  up : Rise O
  mem : ∀ x, x ∈ O ↔ lo ≤ x ∧ x < b ∧ 0 < cnt ls x (x + 1)
theorem Flr.skip {ls : List (List Int)} (h : ChL ls) {lo b c : Int} {O : List Int} (f : Flr ls lo b O) (hbc : b ≤ c) (h0 : cnt ls b c = 0) : Flr ls lo c O := ⟨f.up, fun x => by
  rw [f.mem]
  constructor
  · rintro ⟨h1, h2, h3⟩; exact ⟨h1, by omega, h3⟩
  · rintro ⟨h1, h2, h3⟩
    refine ⟨h1, Int.lt_of_not_ge fun h4 => ?_, h3⟩
    have e1 := cnt_add ls b x c
    have e2 := cnt_add ls x (x + 1) c
    have p1 := h.nn0 (show b ≤ x by omega)
    have p2 := h.nn0 (show x + 1 ≤ c by omega)
    omega⟩
theorem Flr.one {ls : List (List Int)} (h : ChL ls) {lo b c x : Int} {O : List Int} (f : Flr ls lo b O) (hlo : lo ≤ b) (hx : b ≤ x) (hc : x + 1 ≤ c) (h1 : 0 < cnt ls x (x + 1)) (h2 : cnt ls b x = 0) (h3 : cnt ls (x + 1) c = 0) : Flr ls lo c (O ++ [x]) := by
  have f2 := f.skip h hx h2
  have f3 : Flr ls lo (x + 1) (O ++ [x]) := ⟨f2.up.snoc fun y hy => ((f2.mem y).1 hy).2.1, fun y => by
    rw [List.mem_append, List.mem_singleton, f2.mem]
    constructor
    · rintro (⟨g1, g2, g3⟩ | rfl)
      · exact ⟨g1, by omega, g3⟩
      · exact ⟨by omega, by omega, h1⟩
    · rintro ⟨g1, g2, g3⟩
      by_cases e : y = x
      · exact .inr e
      · exact .inl ⟨g1, by omega, g3⟩⟩
  exact f3.skip h hc h3
end Go.Proofs.YtgpcepcbdpigfaaGreat
