/- The law PolyzSimple is true of each input, and changes none. No condition. -/
import Derived.Test.YtdnjahdppgjmlaaM3
import Derived.Test.YtdnjahdppgjmlaaRows
import Derived.OpenShut
import Derived.Below
import Derived.Lib.SmallJoins
set_option linter.unusedVariables false
set_option linter.unusedSimpArgs false

namespace Go.Proofs.Ytdnjahdppgjmlaa
/-- P(x) = P(a) + (x - a) Q(x): this Q. -/
def syn (a : Int) : List Int → List Int
  | [] => []
  | [_] => []
  | _ :: d :: l => pev (d :: l) a :: syn a (d :: l)
theorem syn_len (a : Int) : ∀ l : List Int, (syn a l).length = l.length - 1
  | [] => rfl
  | [_] => rfl
  | _ :: d :: l => by
    have := syn_len a (d :: l)
    simp only [syn, List.length_cons] at this ⊢
    omega
theorem syn_ev (a x : Int) : ∀ l : List Int, pev l x = pev l a + (x - a) * pev (syn a l) x
  | [] => by simp [pev, syn]
  | [c] => by simp [pev, syn]
  | c :: d :: l => by
    have := syn_ev a x (d :: l)
    show c + x * pev (d :: l) x = c + a * pev (d :: l) a + (x - a) * (pev (d :: l) a + x * pev (syn a (d :: l)) x)
    rw [this]; grind
theorem syn_co (a : Int) : ∀ (l : List Int) (i : Nat), l.getD i 0 = (if i = 0 then pev l a else (syn a l).getD (i - 1) 0) - a * (syn a l).getD i 0
  | [], i => by simp [pev, syn]
  | [c], i => by cases i <;> simp [pev, syn]
  | c :: d :: l, 0 => by
    show c = c + a * pev (d :: l) a - a * pev (d :: l) a
    omega
  | c :: d :: l, 1 => by
    have := syn_co a (d :: l) 0
    simp only [if_true] at this
    show (d :: l).getD 0 0 = pev (d :: l) a - a * (syn a (d :: l)).getD 0 0
    exact this
  | c :: d :: l, i + 2 => by
    have := syn_co a (d :: l) (i + 1)
    rw [if_neg (by omega)] at this
    show (d :: l).getD (i + 1) 0 = (syn a (d :: l)).getD i 0 - a * (syn a (d :: l)).getD (i + 1) 0
    exact this
theorem bnd : ∀ (n : Nat) (P : List Int) (pts : Nat → Int) (A B : Nat), P.length ≤ n + 1 → (∀ i, i ≤ n → (pts i).natAbs ≤ A) → (∀ i j, i ≤ n → j ≤ n → i ≠ j → pts i ≠ pts j) → (∀ i, i ≤ n → (pev P (pts i)).natAbs ≤ B) →
    ∀ j, (P.getD j 0).natAbs ≤ B * (2 * A + 3) ^ n
  | 0, P, pts, A, B, hl, _, _, hv, j => by
    have h0 := hv 0 (Nat.le_refl _)
    match P, hl with
    | [], _ => simp
    | [c], _ =>
      simp only [pev] at h0
      cases j with
      | zero => simp at h0 ⊢; exact h0
      | succ j => simp
    | _ :: _ :: _, h => simp at h
  | n + 1, P, pts, A, B, hl, hA, hi, hv, j => by
    have ih := bnd n (syn (pts (n + 1)) P) pts A (2 * B) (by rw [syn_len]; omega) (fun i h => hA i (by omega)) (fun i j h1 h2 => hi i j (by omega) (by omega)) fun i h => by
      have h1 := syn_ev (pts (n + 1)) (pts i) P
      have h2 := hv i (by omega)
      have h3 := hv (n + 1) (Nat.le_refl _)
      have h4 := hi i (n + 1) (by omega) (Nat.le_refl _) (by omega)
      have h5 : ((pts i - pts (n + 1)) * pev (syn (pts (n + 1)) P) (pts i)).natAbs ≤ 2 * B := by
        have : (pts i - pts (n + 1)) * pev (syn (pts (n + 1)) P) (pts i) = pev P (pts i) - pev P (pts (n + 1)) := by omega
        rw [this]
        have := Int.natAbs_sub_le (pev P (pts i)) (pev P (pts (n + 1)))
        omega
      rw [Int.natAbs_mul] at h5
      have h6 : 1 ≤ (pts i - pts (n + 1)).natAbs := by omega
      exact Nat.le_trans (Nat.le_mul_of_pos_left _ h6) h5
    have hp : 1 ≤ (2 * A + 3) ^ n := Nat.pow_pos (by omega)
    have hq : ∀ m, ((syn (pts (n + 1)) P).getD m 0).natAbs ≤ 2 * B * (2 * A + 3) ^ n := ih
    have h1 := syn_co (pts (n + 1)) P j
    have h2 : (pts (n + 1) * (syn (pts (n + 1)) P).getD j 0).natAbs ≤ A * (2 * B * (2 * A + 3) ^ n) := by
      rw [Int.natAbs_mul]
      exact Nat.mul_le_mul (hA _ (Nat.le_refl _)) (hq j)
    have h3 : (if j = 0 then pev P (pts (n + 1)) else (syn (pts (n + 1)) P).getD (j - 1) 0).natAbs ≤ B + 2 * B * (2 * A + 3) ^ n := by
      split
      · exact Nat.le_trans (hv _ (Nat.le_refl _)) (Nat.le_add_right _ _)
      · exact Nat.le_trans (hq _) (Nat.le_add_left _ _)
    have h4 : (P.getD j 0).natAbs ≤ B + 2 * B * (2 * A + 3) ^ n + A * (2 * B * (2 * A + 3) ^ n) := by
      rw [h1]
      exact Nat.le_trans (Int.natAbs_sub_le _ _) (Nat.add_le_add h3 h2)
    refine Nat.le_trans h4 ?_
    have h5 : B ≤ B * (2 * A + 3) ^ n := Nat.le_mul_of_pos_right _ hp
    have h6 : B * (2 * A + 3) ^ (n + 1) = B * (2 * A + 3) ^ n + (2 * B * (2 * A + 3) ^ n + A * (2 * B * (2 * A + 3) ^ n)) := by
      rw [Nat.pow_succ]; grind
    omega
/-- Beyond its coefficients a polynomial that is not 0 has no root. -/
theorem ev_ne {H : Nat} {x : Int} (hx : H < x.natAbs) : ∀ {l : List Int}, (∀ i, (l.getD i 0).natAbs ≤ H) → pev l x = 0 → ∀ i, l.getD i 0 = 0
  | [], _, _, i => by simp
  | c :: l, h, e, i => by
    simp only [pev] at e
    have h0 : c = 0 := by
      have := h 0
      simp only [List.getD_cons_zero] at this
      exact small_dvd (x := x) (k := - pev l x) (by rw [Int.mul_neg]; omega) (by omega)
    have h1 : pev l x = 0 := by
      rw [h0] at e
      rcases Int.mul_eq_zero.1 (show x * pev l x = 0 by omega) with h2 | h2
      · omega
      · exact h2
    cases i with
    | zero => simpa using h0
    | succ i => simpa using ev_ne hx (fun i => by have := h (i + 1); simpa using this) h1 i
theorem dv_bnd {s w : List Int} {H B n : Nat} (h : Dv s w) (hw : 0 < dg w) (hH : ∀ i, (w.getD i 0).natAbs ≤ H) (hs : s.length ≤ n + 1) (hB : ∀ i, i ≤ n → (pev w (H + 1 + i : Nat)).natAbs ≤ B) (j : Nat) :
    (s.getD j 0).natAbs ≤ B * (2 * (H + 1 + n) + 3) ^ n := by
  refine bnd n s (fun i => ((H + 1 + i : Nat) : Int)) (H + 1 + n) B hs (fun i hi => by simp only [Int.natAbs_natCast]; omega) (fun i j _ _ hne he => hne (by omega)) (fun i hi => ?_) j
  obtain ⟨u, hu⟩ := h
  have h1 := hB i hi
  have h2 : pev w (H + 1 + i : Nat) ≠ 0 := fun e => by
    have := ev_ne (H := H) (x := ((H + 1 + i : Nat) : Int)) (by rw [Int.natAbs_natCast]; omega) hH e
    have : dg w ≤ 0 := dg_le.2 fun i _ => this i
    omega
  rw [hu, Int.natAbs_mul] at h1
  have h3 : 1 ≤ (pev u (H + 1 + i : Nat)).natAbs := by
    rw [hu] at h2
    have : pev u (H + 1 + i : Nat) ≠ 0 := fun e => h2 (by rw [e]; simp)
    omega
  exact Nat.le_trans (Nat.le_mul_of_pos_right _ h3) h1
end Go.Proofs.Ytdnjahdppgjmlaa

namespace Go.Proofs.Ytdnjahdppgjmlaa
open Go.RowKit
def dvk (k N : Nat) : Nat := k + 2 * (N * (k + 2)) + 1
theorem dv_szR {s w : List Int} {k N : Nat} (h : Dv s w) (hw : 0 < dg w) (hk : szR k w) (ns : Nm s) (hN : dg w ≤ N) (h32 : N ≤ 4294967296) : szR (dvk k N) s := by
  have hs0 := h.deg hw
  have hls : s.length = dg s := (dg_nm ns).symm
  have hP : 0 < 18446744073709551616 ^ k := Nat.pow_pos (by decide)
  have hP1 : 18446744073709551616 ^ (k + 1) = 18446744073709551616 ^ k * 18446744073709551616 := Nat.pow_succ _ _
  have hP2 : 18446744073709551616 ^ (k + 2) = 18446744073709551616 ^ k * 18446744073709551616 * 18446744073709551616 := by rw [Nat.pow_succ, hP1]
  have hB : ∀ i, i ≤ N → (pev w (18446744073709551616 ^ k + 1 + i : Nat)).natAbs ≤ 18446744073709551616 ^ (k + N * (k + 2)) := fun i hi => by
    have hx : sz ((18446744073709551616 ^ k + 1 + i : Nat) : Int) (k + 1) := by
      unfold sz
      rw [Int.natAbs_natCast, hP1]
      omega
    have h1 := ev_sz hk.nrm hx
    rw [ev_nrm] at h1
    have h2 : k + (nrm w).length * (k + 1 + 1) ≤ k + N * (k + 2) := Nat.add_le_add_left (Nat.mul_le_mul_right _ hN) _
    exact Nat.le_of_lt (h1.mono h2)
  have hb := dv_bnd (n := dg s - 1) h hw (fun i => Nat.le_of_lt (hk.get i)) (by omega) fun i hi => hB i (by omega)
  intro x hx
  obtain ⟨j, hj, rfl⟩ := List.mem_iff_getElem.1 hx
  have h1 := hb j
  rw [List.getD_eq_getElem?_getD, List.getElem?_eq_getElem hj] at h1
  have h2 : 2 * (18446744073709551616 ^ k + 1 + (dg s - 1)) + 3 ≤ 18446744073709551616 ^ (k + 2) := by
    rw [hP2]; omega
  have h3 : (2 * (18446744073709551616 ^ k + 1 + (dg s - 1)) + 3) ^ (dg s - 1) ≤ 18446744073709551616 ^ (N * (k + 2)) := by
    refine Nat.le_trans (Nat.pow_le_pow_left h2 _) ?_
    rw [← Nat.pow_mul]
    refine Nat.pow_le_pow_right (by decide) ?_
    rw [Nat.mul_comm]
    exact Nat.mul_le_mul_right _ (by omega)
  unfold sz
  have h4 : 18446744073709551616 ^ (k + N * (k + 2)) * 18446744073709551616 ^ (N * (k + 2)) = 18446744073709551616 ^ (k + 2 * (N * (k + 2))) := by
    rw [← Nat.pow_add]; congr 1; omega
  have h5 : (s[j]).natAbs ≤ 18446744073709551616 ^ (k + 2 * (N * (k + 2))) := by
    rw [← h4]
    exact Nat.le_trans h1 (Nat.mul_le_mul (Nat.le_refl _) h3)
  refine Nat.lt_of_le_of_lt h5 ?_
  unfold dvk
  exact Nat.pow_lt_pow_right (by decide) (by omega)
end Go.Proofs.Ytdnjahdppgjmlaa

namespace Go.Proofs.Ytdnjahdppgjmlaa
open Go.RowKit
/-- What is left, as one step of a division takes off. -/
theorem div_dg {R D : List Int} {c : Int} (hD : 0 < dg D) (hR : dg D ≤ dg R) (hc : c * ld D = ld R) : dg (psub R (prai c (dg R - dg D) D)) < dg R := by
  have : dg (psub R (prai c (dg R - dg D) D)) ≤ dg R - 1 := dg_le.2 fun i hi => by
    rw [co_psub, co_prai, if_neg (by omega)]
    by_cases h : i = dg R - 1
    · rw [h, show dg R - 1 - (dg R - dg D) = dg D - 1 by omega]
      show ld R - c * ld D = 0
      omega
    · rw [dg_le.1 (Nat.le_refl (dg R)) i (by omega), dg_le.1 (Nat.le_refl (dg D)) (i - (dg R - dg D)) (by omega)]; simp
  omega
/-- t and the errno that Divide tells. -/
structure DivSpec (p q t : List Int) (e : Int) : Prop where
  tn : Nm t
  zero : dg q = 0 → e = 2 ∧ t = []
  ok : 0 < dg q → Dv q p → e = 0 ∧ ∀ x, pev p x = pev q x * pev t x
  no : 0 < dg q → ¬ Dv q p → e = 11 ∧ t = []
theorem DivSpec.unique {p q t t' : List Int} {e e' : Int} (h : DivSpec p q t e) (h' : DivSpec p q t' e') : t = t' ∧ e = e' := by
  by_cases h0 : dg q = 0
  · rw [(h.zero h0).1, (h.zero h0).2, (h'.zero h0).1, (h'.zero h0).2]; exact ⟨rfl, rfl⟩
  · have h0 : 0 < dg q := by omega
    by_cases hd : Dv q p
    · obtain ⟨h1, h2⟩ := h.ok h0 hd
      obtain ⟨h3, h4⟩ := h'.ok h0 hd
      exact ⟨h.tn.ext h'.tn (cancel h0 fun x => by rw [← h2, ← h4]), by rw [h1, h3]⟩
    · rw [(h.no h0 hd).1, (h.no h0 hd).2, (h'.no h0 hd).1, (h'.no h0 hd).2]; exact ⟨rfl, rfl⟩
def put (f : Nat → Int) (s : Nat) (c : Int) : Nat → Int := fun y => if y = s then c else f y
theorem ev_put {N s : Nat} {f : Nat → Int} (hs : s < N) (h0 : f s = 0) (c x : Int) : pev (lst N (put f s c)) x = pev (lst N f) x + c * x ^ s := by
  have e : ∀ y, put f s c y = f y + (if s ≤ y then c * [1].getD (y - s) 0 else 0) := fun y => by
    unfold put
    by_cases h : y = s
    · subst h
      rw [if_pos rfl, if_pos (Nat.le_refl _), Nat.sub_self, h0]; simp
    · rw [if_neg h]
      split
      · rw [getD_none (l := [1]) (by simp; omega)]; simp
      · simp
  have e2 : lst N (put f s c) = lst N fun y => f y + (if s ≤ y then c * [1].getD (y - s) 0 else 0) := lst_congr fun y _ => e y
  rw [e2, ev_lst_add, ev_shifted [1] s N (by simp; omega)]
  simp [pev]
theorem div_step {P D R : List Int} {f : Nat → Int} {N : Nat} {c : Int} (hs : R.length - D.length < N) (h0 : f (R.length - D.length) = 0) (e : ∀ x, pev P x = pev D x * pev (lst N f) x + pev R x) :
    ∀ x, pev P x = pev D x * pev (lst N (put f (R.length - D.length) c)) x + pev (psub R (prai c (R.length - D.length) D)) x := fun x => by
  rw [ev_put hs h0, ev_psub, ev_prai, e]; grind
theorem div_no {P D R T : List Int} (e : ∀ x, pev P x = pev D x * pev T x + pev R x) (h : Dv D P) : Dv D R :=
  h.sub (c := pmul D T) ⟨T, fun x => ev_pmul _ _ _⟩ fun x => by rw [e, ev_pmul]; omega
theorem ld_dvd {D R : List Int} (h : Dv D R) (hR : 0 < dg R) : ld D ∣ ld R := by
  obtain ⟨u, hu⟩ := h
  have hd := (show Dv D R from ⟨u, hu⟩).deg hR
  have hu0 : 0 < dg u := dg_pos fun e => by
    have := (dg_zero (l := R)).2 fun x => by rw [hu, e]; simp
    omega
  exact ⟨ld u, (mul_dg hu hd.1 hu0).2⟩
theorem pDivideO_meets (v w : Value) (p q : Row) (k l : Nat) (hp : Fit k p) (hq : Fit l q) (hk : k + (p.length + 1) * (l + 1) ≤ 137438953472) (lp : p.length ≤ 536870912) (lq : q.length ≤ 536870912) :
    Meets Try.prog 17 [v, w] [(v, V p), (w, V q)] (fun r os fs => ∃ a t e, r = .tuple #[a, .int .i64 e] ∧ DivSpec (vv p) (vv q) t e ∧ isSl a ∧ szR (k + (p.length + 1) * (l + 1)) t ∧ os = [ownL 2 J z0 a (t.map cn)] ∧ fs = []) := by
  have hm1 : (p.length + 1) * (l + 1) = p.length * (l + 1) + (l + 1) := Nat.succ_mul _ _
  have n1 := pNorm_meets v p (hp.mono (by omega)) (by omega)
  have n2 := pNorm_meets w q (hq.mono (by omega)) (by omega)
  have sP := hp.szR.nrm
  have sD := hq.szR.nrm
  have la : (nrm (vv p)).length ≤ p.length := Nat.le_trans (nrm_length_le _) (by rw [vv_len]; exact Nat.le_refl _)
  have lb : (nrm (vv q)).length ≤ q.length := Nat.le_trans (nrm_length_le _) (by rw [vv_len]; exact Nat.le_refl _)
  have hPn : Nm (nrm (vv p)) := nrm_nrm _
  have hDn : Nm (nrm (vv q)) := nrm_nrm _
  have hdq : dg (vv q) = (nrm (vv q)).length := rfl
  have hdv : Dv (vv q) (vv p) → Dv (nrm (vv q)) (nrm (vv p)) := fun h => h.ext (fun x => (ev_nrm _ x).symm) fun x => (ev_nrm _ x).symm
  have hbad : 0 < (nrm (vv q)).length → ¬ Dv (nrm (vv q)) (nrm (vv p)) → DivSpec (vv p) (vv q) [] 11 := fun h0 hn => ⟨rfl, fun h => by omega, fun _ h => (hn (hdv h)).elim, fun _ _ => ⟨rfl, rfl⟩⟩
  have hgood : ∀ T, (0 < (nrm (vv q)).length) → (∀ x, pev (nrm (vv p)) x = pev (nrm (vv q)) x * pev T x) → DivSpec (vv p) (vv q) (nrm T) 0 := fun T h0 hn => ⟨nrm_nrm _, fun h => by omega, fun _ _ => ⟨rfl, fun x => by rw [ev_nrm, ← ev_nrm (vv p), ← ev_nrm (vv q)]; exact hn x⟩, fun _ h => (h ⟨T, fun x => by rw [← ev_nrm (vv p), ← ev_nrm (vv q)]; exact hn x⟩).elim⟩
  have hzero : (nrm (vv q)).length = 0 → DivSpec (vv p) (vv q) [] 2 := fun h0 => ⟨rfl, fun _ => ⟨rfl, rfl⟩, fun h => by omega, fun h => by omega⟩
  generalize hA : nrm (vv p) = A at *
  generalize hB : nrm (vv q) = D at *
  generalize hE : k + (p.length + 1) * (l + 1) = E at *
  refine meets_of_vc Try.func17 (by kernel_rfl) rfl (by kernel_rfl) (Nat.le_of_ble_eq_true rfl) ?_
  refine call_fn n1 (Seals.refl _ _) (by repeat (first | exact Sub.nil _ | refine Sub.cons (by repeat (first | exact List.Mem.head _ | apply List.Mem.tail)) ?_)) ?_
  rintro x1 _ _ ⟨rfl, rfl⟩
  refine call_fn n2 (Seals.refl _ _) (by repeat (first | exact Sub.nil _ | refine Sub.cons (by repeat (first | exact List.Mem.head _ | apply List.Mem.tail)) ?_)) ?_
  rintro x2 _ _ ⟨rfl, rfl⟩
  refine len_vd (by repeat (first | exact List.Mem.head _ | apply List.Mem.tail)) ?_
  refine cmp_split _ rfl (fun hz => ?_) (fun hz => ?_)
  · exact fin ⟨_, [], 2, rfl, hzero (by omega), ⟨_, _, _, rfl⟩, fun x hx => by simp at hx, rfl, rfl⟩ (Seals.trans (Seals.nil _ _) (Seals.own_nil _ _ 2 _))
  have hD0 : 0 < D.length := by omega
  have dD := dg_nm hDn
  have hldD : ld D ≠ 0 := ld_ne (by omega)
  refine len_vd (by repeat (first | exact List.Mem.head _ | apply List.Mem.tail)) ?_
  refine len_vd (by repeat (first | exact List.Mem.head _ | apply List.Mem.tail)) ?_
  refine ar rfl (by first | exact ⟨by omega, by omega⟩ | (simp only [inK]; omega)) ?_
  refine ar rfl (by first | exact ⟨by omega, by omega⟩ | (simp only [inK]; omega)) ?_
  refine max2_rule ?_
  refine make_rule (t := 23) (d := I false []) (A.length + 1 - D.length) (by omega) (by omega) (by omega) (by omega) fun u hu => ?_
  generalize hN : A.length + 1 - D.length = N
  refine loop_rule (X := Value × List Int × (Nat → Int) × Nat) (fun x => ([(6, x.1), (7, x2), (8, u)], [own1 u 2 N (fun y => zd (x.2.2.1 y))], [(x2, vd D), (x.1, vd x.2.1)]))
    (fun x => Nm x.2.1 ∧ x.2.1.length + x.2.2.2 ≤ A.length ∧ szR (k + x.2.2.2 * (l + 1)) x.2.1 ∧ (∀ y, sz (x.2.2.1 y) E) ∧ (∀ y, y + D.length ≤ x.2.1.length → x.2.2.1 y = 0) ∧ ∀ x', pev A x' = pev D x' * pev (lst N x.2.2.1) x' + pev x.2.1 x') (fun x => x.2.1.length) rfl ?_ ?_
  · refine again (x1, A, fun _ => 0, 0) ⟨hPn, by simp only; omega, by simp only [Nat.zero_mul, Nat.add_zero]; exact sP, fun _ => sz_zero _, fun _ _ => rfl, fun x => by simp only [ev_lst_zero]; omega⟩ trivial (by repeat (first | exact trivial | refine ⟨rfl, ?_⟩ | refine ⟨i64_eq (by first | omega | (simp only; omega)), ?_⟩ | refine ⟨u64_eq (by first | omega | (simp only; omega)), ?_⟩)) (Seals.trans (Seals.own_cong (os := [_]) 0 (fun _ => zd 0) rfl rfl fun y _ => zero_zd) (Seals.sub (by repeat (first | exact Sub.nil _ | refine Sub.cons (by repeat (first | exact List.Mem.head _ | apply List.Mem.tail)) ?_))))
  · rintro ⟨vr, R, f, j⟩ ⟨g1, g2, g3, g4, g5, g6⟩
    simp only at g1 g2 g3 g4 g5 g6 ⊢
    have dR := dg_nm g1
    refine len_vd (by repeat (first | exact List.Mem.head _ | apply List.Mem.tail)) ?_
    refine len_vd (by repeat (first | exact List.Mem.head _ | apply List.Mem.tail)) ?_
    refine cmp_split _ rfl (fun hge => ?_) (fun hge => ?_)
    · have hge' : D.length ≤ R.length := by omega
      have hsN : R.length - D.length < N := by omega
      have hj1 : (j + 1) * (l + 1) ≤ (p.length + 1) * (l + 1) := Nat.mul_le_mul_right _ (by omega)
      have hj2 : (j + 1) * (l + 1) = j * (l + 1) + (l + 1) := Nat.succ_mul _ _
      have hlR : sz (ld R) (k + j * (l + 1)) := g3.get _
      have hlD : sz (ld D) l := sD.get _
      have hlc : sz (ld R / ld D) (k + j * (l + 1)) := sz_div hlR
      have hlm : sz (ld R % ld D) l := by
        have h1 := Int.emod_nonneg (ld R) hldD
        have h2 := Int.emod_lt (ld R) hldD
        unfold sz at hlD ⊢
        omega
      have hst := div_step (c := ld R / ld D) hsN (g5 _ (by omega)) g6
      have c5 := fun u' u'' => pRaisedT u' u'' D (ld R / ld D) (R.length - D.length) l _ sD hlc (by omega) (by omega) (by omega)
      have s5 : szR (k + j * (l + 1) + l) (prai (ld R / ld D) (R.length - D.length) D) := by
        have := sD.prai hlc (R.length - D.length)
        rwa [Nat.add_comm] at this
      have c6 := fun u' u'' => pSubT u' u'' R (prai (ld R / ld D) (R.length - D.length) D) _ (g3.mono (Nat.le_add_right _ l)) s5 (by omega) (by omega) (by have := prai_len (ld R / ld D) (R.length - D.length) D; omega)
      have z6 : szR (k + (j + 1) * (l + 1)) (psub R (prai (ld R / ld D) (R.length - D.length) D)) := ((g3.mono (Nat.le_add_right _ l)).psub s5).mono (by omega)
      have hnd : ld R % ld D ≠ 0 → ¬ Dv D A := fun h hd => h (Int.emod_eq_zero_of_dvd (ld_dvd (div_no g6 hd) (by omega)))
      have hdg : ld R % ld D = 0 → (psub R (prai (ld R / ld D) (R.length - D.length) D)).length < R.length := fun h => by
        have := div_dg (R := R) (D := D) (c := ld R / ld D) (by omega) (by omega) (Int.ediv_mul_cancel (Int.dvd_of_emod_eq_zero h))
        rw [dR, dD, dg_nm (psub_nm _ _)] at this
        exact this
      have hrn : Nm (psub R (prai (ld R / ld D) (R.length - D.length) D)) := psub_nm _ _
      have hpf : ∀ y, sz (put f (R.length - D.length) (ld R / ld D) y) E := fun y => by
        unfold put; split
        · exact hlc.mono (by omega)
        · exact g4 y
      have hup : ∀ y, upd (fun y => zd (f y)) (R.length - D.length) (zd (ld R / ld D)) y = zd (put f (R.length - D.length) (ld R / ld D) y) := fun y =>
        upd_zd (G := f) (H := put f (R.length - D.length) (ld R / ld D)) (by unfold put; rw [if_pos rfl]) (fun y hy => by unfold put; rw [if_neg hy]) y
      have hcast : ((R.length - D.length : Nat) : Int) = (R.length : Int) - (D.length : Int) := by omega
      have hput : ∀ y, y < R.length - D.length → put f (R.length - D.length) (ld R / ld D) y = f y := fun y hy => by unfold put; rw [if_neg (by omega)]
      generalize hR' : psub R (prai (ld R / ld D) (R.length - D.length) D) = R' at *
      generalize hf' : put f (R.length - D.length) (ld R / ld D) = f' at *
      refine len_vd (by repeat (first | exact List.Mem.head _ | apply List.Mem.tail)) ?_
      refine len_vd (by repeat (first | exact List.Mem.head _ | apply List.Mem.tail)) ?_
      refine ar rfl (by first | exact ⟨by omega, by omega⟩ | (simp only [inK]; omega)) ?_
      refine call_fn (pLeadN vr R g1 (by omega)) (Seals.refl _ _) (by repeat (first | exact Sub.nil _ | refine Sub.cons (by repeat (first | exact List.Mem.head _ | apply List.Mem.tail)) ?_)) ?_
      rintro y1 _ _ ⟨rfl, rfl⟩
      refine call_fn (pLeadN x2 D hDn hD0) (Seals.refl _ _) (by repeat (first | exact Sub.nil _ | refine Sub.cons (by repeat (first | exact List.Mem.head _ | apply List.Mem.tail)) ?_)) ?_
      rintro y2 _ _ ⟨rfl, rfl⟩
      refine call_fn (zDivModZ y1 y2 _ _ _ _ hlR hlD (by omega) (by omega) hldD) (Seals.refl _ _) (by repeat (first | exact Sub.nil _ | refine Sub.cons (by repeat (first | exact List.Mem.head _ | apply List.Mem.tail)) ?_)) ?_
      rintro _ _ _ ⟨rfl, y3, y4, rfl, rfl⟩
      refine alloc_rule (d := I false []) fun c hc => ?_
      refine alloc_rule (d := I false []) fun m hm => ?_
      refine store_box (d := zd (ld R / ld D)) 1 rfl hc rfl (by kernel_rfl) ?_ ?_; exact Reads.fact (by repeat (first | exact List.Mem.head _ | apply List.Mem.tail))
      refine store_box (d := zd (ld R % ld D)) 0 rfl hm rfl (by kernel_rfl) ?_ ?_; exact Reads.fact (by repeat (first | exact List.Mem.head _ | apply List.Mem.tail))
      refine load_box (d := zd (ld R % ld D)) 0 rfl hm rfl (load_I _ _) fun y5 => ?_
      refine call_fn (zSignZ y5 _ _ hlm (by omega)) (Seals.refl _ _) (by repeat (first | exact Sub.nil _ | refine Sub.cons (by repeat (first | exact List.Mem.head _ | apply List.Mem.tail)) ?_)) ?_
      rintro _ _ _ ⟨rfl, rfl, rfl⟩
      refine cmp_split _ rfl (fun hne => ?_) (fun hne => ?_)
      · have h11 := hbad hD0 (hnd fun h => hne (by rw [h]; rfl))
        exact fin ⟨_, [], 11, rfl, h11, ⟨_, _, _, rfl⟩, fun x hx => by simp at hx, rfl, rfl⟩ (Seals.trans (Seals.drop 0 _ _) (Seals.trans (Seals.drop 0 _ _) (Seals.trans (Seals.drop 0 _ _) (Seals.trans (Seals.nil _ _) (Seals.own_nil _ _ 2 _)))))
      · have h0 : ld R % ld D = 0 := Int.sign_eq_zero_iff_zero.1 (by omega)
        have hlen := hdg h0
        refine load_box (d := zd (ld R / ld D)) 1 rfl hc rfl (load_I _ _) fun y6 => ?_
        refine index_elem 2 rfl hu (R.length - D.length) (by omega) hsN ?_
        refine StoreK.post (store_elem (d := zd (ld R / ld D)) 2 rfl (R.length - D.length) hsN rfl (by kernel_rfl) (Reads.fact (by repeat (first | exact List.Mem.head _ | apply List.Mem.tail))) ⟨_, _, Seals.own_cong (os := [_, _, _]) 2 (fun y => zd (f' y)) rfl rfl (fun y _ => hup y), ?_⟩)
        refine load_box (d := zd (ld R / ld D)) 1 rfl hc rfl (load_I _ _) fun y7 => ?_
        have c5' := c5 x2 y7
        rw [hcast] at c5'
        refine call_fn c5' (Seals.refl _ _) (by repeat (first | exact Sub.nil _ | refine Sub.cons (by repeat (first | exact List.Mem.head _ | apply List.Mem.tail)) ?_)) ?_
        rintro y8 _ _ ⟨rfl, rfl⟩
        refine call_fn (c6 vr y8) (Seals.refl _ _) (by repeat (first | exact Sub.nil _ | refine Sub.cons (by repeat (first | exact List.Mem.head _ | apply List.Mem.tail)) ?_)) ?_
        rintro y9 _ _ ⟨rfl, rfl⟩
        refine again (y9, R', f', j + 1) ⟨hrn, by simp only; omega, z6, hpf, fun y hy => ?_, hst⟩ (by simp only; omega) (by repeat (first | exact trivial | refine ⟨rfl, ?_⟩ | refine ⟨i64_eq (by first | omega | (simp only; omega)), ?_⟩ | refine ⟨u64_eq (by first | omega | (simp only; omega)), ?_⟩)) (Seals.trans (Seals.drop 0 _ _) (Seals.trans (Seals.drop 0 _ _) (Seals.sub (by repeat (first | exact Sub.nil _ | refine Sub.cons (by repeat (first | exact List.Mem.head _ | apply List.Mem.tail)) ?_)))))
        simp only at hy ⊢
        rw [hput y (by omega)]
        exact g5 y (by omega)
    · refine len_vd (by repeat (first | exact List.Mem.head _ | apply List.Mem.tail)) ?_
      refine cmp_split _ rfl (fun hp0 => ?_) (fun hp0 => ?_)
      · have h11 := hbad hD0 fun hd => by
          have := (div_no g6 hd).deg (by omega)
          omega
        exact fin ⟨_, [], 11, rfl, h11, ⟨_, _, _, rfl⟩, fun x hx => by simp at hx, rfl, rfl⟩ (Seals.trans (Seals.drop 0 _ _) (Seals.trans (Seals.nil _ _) (Seals.own_nil _ _ 2 _)))
      · have hR0 : R = [] := List.length_eq_zero_iff.1 (by omega)
        have hok := hgood (lst N f) hD0 fun x => by
          have := g6 x
          rw [hR0] at this
          simp only [pev] at this; omega
        have hsl : szR E (lst N f) := szR.lst fun y _ => g4 y
        have hn := pNormO_meets u ((lst N f).map cn) (hsl.mono hk).fit (by rw [List.length_map, lst_len]; omega)
        rw [vv_cn] at hn
        refine call_fn hn (Seals.told (g := f) hu fun y _ => rfl) (by repeat (first | exact Sub.nil _ | refine Sub.cons (by repeat (first | exact List.Mem.head _ | apply List.Mem.tail)) ?_)) ?_
        rintro r _ _ ⟨hr, rfl, rfl⟩
        exact fin ⟨r, _, 0, rfl, hok, hr, hsl.nrm, rfl, rfl⟩ (Seals.sub (by repeat (first | exact Sub.nil _ | refine Sub.cons (by repeat (first | exact List.Mem.head _ | apply List.Mem.tail)) ?_)))
end Go.Proofs.Ytdnjahdppgjmlaa

namespace Go.Proofs.Ytdnjahdppgjmlaa
theorem ipow_ne {a : Int} (h : a ≠ 0) : ∀ n : Nat, a ^ n ≠ 0
  | 0 => by rw [Int.pow_zero]; omega
  | n + 1 => by rw [Int.pow_succ]; exact Int.mul_ne_zero (ipow_ne h n) h
theorem gc_run : ∀ (n : Nat) (p q a b : List Int), dg b ≤ n → (0 < dg a → cont a = 1 ∧ 0 < ld a) → (0 < dg b → cont b = 1 ∧ 0 < ld b) → (dg a = 0 ∧ dg b = 0 → dg p = 0 ∧ dg q = 0) →
    (∀ h, cont h = 1 → (Dv h a ∧ Dv h b ↔ Dv h (pprim p) ∧ Dv h (pprim q))) → ∃ g, Gc g p q := by
  intro n
  induction n with
  | zero =>
    intro p q a b hb ha _ hz h
    have hb0 : dg b = 0 := by omega
    refine ⟨_, gcd_end (a := a) ha (fun h0 => hz ⟨h0, hb0⟩) fun d hd => ?_⟩
    rw [← h d hd]
    exact ⟨fun k => ⟨k, Dv.zero _ (dg_zero.1 hb0)⟩, fun k => k.1⟩
  | succ n ih =>
    intro p q a b hb ha hbp hz h
    by_cases h0 : dg b = 0
    · exact ih p q a b (by omega) ha hbp hz h
    obtain ⟨t, r, hr, e⟩ := pseudo (q := b) (by omega) (dg a) a (Nat.le_refl _)
    have hk : ld b ^ (dg a + 1 - dg b) ≠ 0 := fun e => by
      have := ld_ne (l := b) (by omega)
      exact ipow_ne this _ e
    refine ih p q b (pprim r) (by rw [pprim_dg]; omega) hbp (fun h1 => ?_) (fun h1 => by omega) fun d hd => ?_
    · rw [pprim_dg] at h1
      exact ⟨pprim_cont h1, pprim_ld h1⟩
    · rw [← h d hd, gcd_step hd hk e]
theorem gc_exists (p q : List Int) : ∃ g, Gc g p q := by
  refine gc_run _ p q (pprim p) (pprim q) (Nat.le_refl _) (fun h => ?_) (fun h => ?_) (fun h => ?_) fun _ _ => Iff.rfl
  · rw [pprim_dg] at h; exact ⟨pprim_cont h, pprim_ld h⟩
  · rw [pprim_dg] at h; exact ⟨pprim_cont h, pprim_ld h⟩
  · rwa [pprim_dg, pprim_dg] at h
/-- What divides two products divides the product of what they have in common. -/
theorem gc_mul {g p q r d : List Int} (h : Gc g p q) (h1 : Dv d (pmul p r)) (h2 : Dv d (pmul q r)) : Dv d (pmul g r) := by
  by_cases hr : dg r = 0
  · exact Dv.zero _ fun x => by rw [ev_pmul, dg_zero.1 hr]; simp
  obtain ⟨k, hk⟩ := gc_exists (pmul p r) (pmul q r)
  obtain ⟨a, ha⟩ := h.1
  obtain ⟨b, hb⟩ := h.2.1
  obtain ⟨u, hu⟩ := hk.2.2.1 (pmul g r) ⟨a, fun x => by rw [ev_pmul, ev_pmul, ha]; grind⟩ ⟨b, fun x => by rw [ev_pmul, ev_pmul, hb]; grind⟩
  have s : ∀ (p : List Int), Dv k (pmul p r) → Dv (pmul g u) p := fun p ⟨v, hv⟩ => ⟨v, fun x => by
    have := cancel (a := r) (u := p) (v := pmul (pmul g u) v) (by omega) (fun x => by
      have := hv x
      rw [hu, ev_pmul, ev_pmul] at this
      rw [ev_pmul, ev_pmul]; grind) x
    rw [this, ev_pmul]⟩
  obtain ⟨w, hw⟩ := h.2.2.1 _ (s p hk.1) (s q hk.2.1)
  refine (hk.2.2.1 d h1 h2).trans ⟨w, fun x => ?_⟩
  rw [ev_pmul, hw, ev_pmul, hu, ev_pmul]; grind
-- What no other one divides.
def Irr (h : List Int) : Prop := cont h = 1 ∧ 2 ≤ dg h ∧ ∀ d, cont d = 1 → Dv d h → dg d = 1 ∨ dg d = dg h
theorem Dv.prim_of {d h : List Int} (hh : cont h = 1) (k : Dv d h) : cont d = 1 := by
  have := k.cnt
  rw [hh] at this
  exact Nat.dvd_one.1 this
theorem irr_exists : ∀ (n : Nat) (p : List Int), dg p ≤ n → cont p = 1 → 2 ≤ dg p → ∃ h, Irr h ∧ Dv h p
  | 0, p, h, _, h2 => by omega
  | n + 1, p, hn, hc, h2 => by
    by_cases h : Irr p
    · exact ⟨p, h, Dv.refl p⟩
    · have : ∃ d, cont d = 1 ∧ Dv d p ∧ dg d ≠ 1 ∧ dg d ≠ dg p := Classical.byContradiction fun hn => h ⟨hc, h2, fun d h3 h4 => by
        by_cases e : dg d = 1
        · exact .inl e
        · by_cases e2 : dg d = dg p
          · exact .inr e2
          · exact (hn ⟨d, h3, h4, e, e2⟩).elim⟩
      obtain ⟨d, h3, h4, h5, h6⟩ := this
      have := h4.deg (by omega)
      obtain ⟨h, h7, h8⟩ := irr_exists n d (by omega) h3 (by omega)
      exact ⟨h, h7, h8.trans h4⟩
/-- Of one degree, and primitive: the same but for the sign. -/
theorem Dv.back {d h : List Int} (hh : cont h = 1) (k : Dv d h) (e : dg d = dg h) : Dv h d := by
  have h0 : 0 < dg h := Nat.pos_of_ne_zero fun e => by rw [cont_zero.2 e] at hh; omega
  obtain ⟨u, hu⟩ := k
  have hu0 : 0 < dg u := dg_pos fun e => by
    have := (dg_zero (l := h)).2 fun x => by rw [hu, e]; simp
    omega
  have h1 := (mul_dg hu (by omega) hu0).1
  have h2 := cont_prod hu
  rw [hh] at h2
  have h3 : cont u = 1 := by
    exact Nat.eq_one_of_mul_eq_one_left h2.symm
  have h4 : ∀ x, pev u x = u.getD 0 0 := const_ev (by omega)
  have h5 : cont u = (u.getD 0 0).natAbs := by
    have := cont_ext (l := u) (m := [u.getD 0 0]) fun x => by rw [h4]; simp [pev]
    rw [this]; simp [cont]
  have h6 : u.getD 0 0 * u.getD 0 0 = 1 := by
    have : (u.getD 0 0).natAbs = 1 := by omega
    have h7 := Int.natAbs_mul_self (a := u.getD 0 0)
    rw [this] at h7; simpa using h7.symm
  exact ⟨u, fun x => by rw [hu, h4, Int.mul_assoc, h6, Int.mul_one]⟩
theorem irr_prime {h a b c : List Int} (hh : Irr h) (e : ∀ x, pev c x = pev a x * pev b x) (k : Dv h c) : Dv h a ∨ Dv h b := by
  obtain ⟨g, hg⟩ := gc_exists h a
  have hc := hg.1.prim_of hh.1
  rcases hh.2.2 g hc hg.1 with h1 | h1
  · right
    have h2 : Dv h (pmul g b) := gc_mul hg ⟨b, fun x => ev_pmul _ _ _⟩ (k.ext (fun _ => rfl) fun x => by rw [e, ev_pmul])
    have h4 : ∀ x, pev g x = g.getD 0 0 := const_ev (by omega)
    have h5 : g.getD 0 0 ≠ 0 := by
      have := ld_ne (l := g) (by omega)
      rwa [ld, show dg g - 1 = 0 by omega] at this
    exact Dv.prim hh.1 h5 (h2.ext (fun _ => rfl) fun x => by rw [ev_pmul, ev_map_mul, h4])
  · left
    exact (hg.1.back hh.1 h1).trans hg.2.1
def ppow (h : List Int) : Nat → List Int
  | 0 => [1]
  | n + 1 => pmul (ppow h n) h
theorem ev_ppow (h : List Int) (n : Nat) (x : Int) : pev (ppow h n) x = pev h x ^ n := by
  induction n with
  | zero => simp [ppow, pev]
  | succ n ih => rw [ppow, ev_pmul, ih, Int.pow_succ]
theorem val_exists {h : List Int} (hh : Irr h) : ∀ (n : Nat) (w : List Int), dg w ≤ n → 0 < dg w → ∃ k v, ¬ Dv h v ∧ ∀ x, pev w x = pev h x ^ k * pev v x
  | 0, w, h1, h2 => by omega
  | n + 1, w, h1, h2 => by
    by_cases hd : Dv h w
    · obtain ⟨u, hu⟩ := hd
      have hu0 : 0 < dg u := dg_pos fun e => by
        have := (dg_zero (l := w)).2 fun x => by rw [hu, e]; simp
        omega
      have h3 := (mul_dg hu (by have := hh.2.1; omega) hu0).1
      have h4 := hh.2.1
      obtain ⟨k, v, h5, h6⟩ := val_exists hh n u (by omega) hu0
      exact ⟨k + 1, v, h5, fun x => by rw [hu, h6, Int.pow_succ]; grind⟩
    · exact ⟨0, w, hd, fun x => by simp⟩
-- Derivatives.
def pder (l : List Int) : List Int := nrm (lst (l.length - 1) fun i => ((i + 1 : Nat) : Int) * l.getD (i + 1) 0)
theorem co_pder (l : List Int) (i : Nat) : (pder l).getD i 0 = ((i + 1 : Nat) : Int) * l.getD (i + 1) 0 := by
  rw [pder, co_nrm, lst_get']
  split
  · rfl
  · rw [getD_none (l := l) (by omega)]; simp
theorem ev_co {l m : List Int} (h : ∀ i, l.getD i 0 = m.getD i 0) (x : Int) : pev l x = pev m x := ev_of_nrm (nrm_ext h) x
theorem pder_ext {l m : List Int} (h : ∀ x, pev l x = pev m x) (x : Int) : pev (pder l) x = pev (pder m) x := ev_co (fun i => by rw [co_pder, co_pder, co_ext h]) x
theorem pder_nm (l : List Int) : Nm (pder l) := nrm_nrm _
theorem pder_nil : pder [] = [] := rfl
theorem pder_cons (c : Int) (l : List Int) (x : Int) : pev (pder (c :: l)) x = pev l x + x * pev (pder l) x := by
  have e : pev (pder (c :: l)) x = pev (padd l (0 :: pder l)) x := ev_co (fun i => by
    rw [co_pder, co_padd, List.getD_cons_succ]
    cases i with
    | zero => simp
    | succ i => rw [List.getD_cons_succ, co_pder]; push_cast; grind) x
  rw [e, ev_padd]; simp [pev]
theorem pder_padd (l m : List Int) (x : Int) : pev (pder (padd l m)) x = pev (pder l) x + pev (pder m) x := by
  rw [← ev_padd]
  exact ev_co (fun i => by rw [co_pder, co_padd, co_padd, co_pder, co_pder]; grind) x
theorem pder_ptim (c : Int) (l : List Int) (x : Int) : pev (pder (ptim c l)) x = c * pev (pder l) x := by
  rw [← ev_ptim]
  exact ev_co (fun i => by rw [co_pder, co_ptim, co_ptim, co_pder]; grind) x
theorem pder_pmul : ∀ (l m : List Int) (x : Int), pev (pder (pmul l m)) x = pev (pder l) x * pev m x + pev l x * pev (pder m) x
  | [], m, x => by
    have : pev (pder (pmul [] m)) x = pev (pder []) x := pder_ext (fun x => by rw [ev_pmul]; simp [pev]) x
    rw [this]; simp [pder_nil, pev]
  | c :: l, m, x => by
    have e : pev (pder (pmul (c :: l) m)) x = pev (pder (padd (ptim c m) (0 :: pmul l m))) x := pder_ext (fun x => by
      rw [ev_pmul, ev_padd, ev_ptim]; simp only [pev]; rw [ev_pmul]; grind) x
    rw [e, pder_padd, pder_ptim, pder_cons, pder_cons, pder_pmul l m x, ev_pmul]; simp only [pev]; grind
theorem pder_mul {a b c : List Int} (e : ∀ x, pev c x = pev a x * pev b x) (x : Int) : pev (pder c) x = pev (pder a) x * pev b x + pev a x * pev (pder b) x := by
  rw [← pder_pmul]; exact pder_ext (fun x => by rw [e, ev_pmul]) x
theorem pder_dg {l : List Int} (h : 2 ≤ dg l) : dg (pder l) + 1 = dg l := by
  have h1 : dg (pder l) ≤ dg l - 1 := dg_le.2 fun i hi => by rw [co_pder, dg_le.1 (Nat.le_refl (dg l)) _ (by omega), Int.mul_zero]
  have h2 : ¬ dg (pder l) ≤ dg l - 2 := fun hn => by
    have h3 := dg_le.1 hn (dg l - 2) (Nat.le_refl _)
    rw [co_pder, show dg l - 2 + 1 = dg l - 1 by omega] at h3
    have h4 : ld l ≠ 0 := ld_ne (by omega)
    rcases Int.mul_eq_zero.1 h3 with h5 | h5
    · omega
    · exact h4 h5
  omega
theorem pder_ppow (h : List Int) : ∀ (n : Nat) (x : Int), pev (pder (ppow h (n + 1))) x = ((n + 1 : Nat) : Int) * pev h x ^ n * pev (pder h) x
  | 0, x => by
    have : pev (pder (ppow h (0 + 1))) x = pev (pder h) x := pder_ext (fun x => by rw [ev_ppow, Int.pow_succ, Int.pow_zero, Int.one_mul]) x
    rw [this]; simp
  | n + 1, x => by
    rw [ppow, pder_pmul, pder_ppow h n x, ev_ppow]; push_cast; grind
/-- The simple part: each irreducible divisor divides it once. -/
theorem simple_once {w g s h : List Int} (hw : 0 < dg w) (hg : Gc g w (pder w)) (hs : ∀ x, pev w x = pev g x * pev s x) (hh : Irr h) (hd : Dv h w) :
    Dv h s ∧ ∀ f, (∀ x, pev s x = pev h x * pev f x) → ¬ Dv h f := by
  obtain ⟨k, v, hv, ev⟩ := val_exists hh _ w (Nat.le_refl _) hw
  have h2 := hh.2.1
  cases k with
  | zero => exact (hv (hd.ext (fun _ => rfl) fun x => by rw [ev]; simp)).elim
  | succ k =>
    have e1 : ∀ x, pev w x = pev (ppow h (k + 1)) x * pev v x := fun x => by rw [ev, ev_ppow]
    have e2 : ∀ x, pev (pder w) x = pev h x ^ k * pev (padd (pmul (ptim ((k + 1 : Nat) : Int) (pder h)) v) (pmul h (pder v))) x := fun x => by
      rw [pder_mul e1, pder_ppow, ev_ppow, ev_padd, ev_pmul, ev_ptim, ev_pmul, Int.pow_succ]; grind
    have h3 : ¬ Dv h (padd (pmul (ptim ((k + 1 : Nat) : Int) (pder h)) v) (pmul h (pder v))) := fun hc => by
      have h4 : Dv h (pmul (ptim ((k + 1 : Nat) : Int) (pder h)) v) := hc.sub (c := pmul h (pder v)) ⟨pder v, fun x => ev_pmul _ _ _⟩ fun x => by rw [ev_padd]; omega
      rcases irr_prime hh (fun x => ev_pmul _ _ _) h4 with h5 | h5
      · have h6 : dg (ptim ((k + 1 : Nat) : Int) (pder h)) = dg (pder h) := by
          have a1 : dg [((k + 1 : Nat) : Int)] = 1 := by simp only [dg, nrm]; rw [if_neg (by omega)]; rfl
          have := (mul_dg (a := [((k + 1 : Nat) : Int)]) (b := pder h) (c := ptim ((k + 1 : Nat) : Int) (pder h)) (fun x => by rw [ev_ptim]; simp [pev]) (by omega) (by have := pder_dg h2; omega)).1
          omega
        have h7 := pder_dg h2
        have := h5.deg (by omega)
        omega
      · exact hv h5
    have hpk : 0 < dg (ppow h k) := dg_pos fun e => by
      have := (dg_zero (l := w)).2 fun x => by
        rw [ev, Int.pow_succ, ← ev_ppow, e]; simp
      omega
    obtain ⟨e, he⟩ : Dv (ppow h k) g := hg.2.2.1 _ ⟨pmul h v, fun x => by rw [ev, ev_ppow, ev_pmul, Int.pow_succ]; grind⟩ ⟨padd (pmul (ptim ((k + 1 : Nat) : Int) (pder h)) v) (pmul h (pder v)), fun x => by rw [e2, ev_ppow]⟩
    have h8 : ¬ Dv h e := fun ⟨m, hm⟩ => h3 (by
      obtain ⟨z, hz⟩ := hg.2.1
      have h10 := cancel (u := padd (pmul (ptim ((k + 1 : Nat) : Int) (pder h)) v) (pmul h (pder v))) (v := pmul h (pmul m z)) hpk fun x => by
        rw [ev_ppow, ← e2, hz, he, hm, ev_ppow, ev_pmul, ev_pmul]; grind
      exact ⟨pmul m z, fun x => by rw [h10, ev_pmul]⟩)
    have h9 : ∀ x, pev (pmul h v) x = pev e x * pev s x := fun x => by
      rw [← ev_pmul]
      exact cancel hpk (fun x => by
        have := hs x
        rw [ev, he, ev_ppow, Int.pow_succ] at this
        rw [ev_ppow, ev_pmul, ev_pmul]; grind) x
    rcases irr_prime hh h9 ⟨v, fun x => ev_pmul _ _ _⟩ with h10 | h10
    · exact (h8 h10).elim
    · refine ⟨h10, fun f hf hdf => hv ?_⟩
      have : ∀ x, pev v x = pev (pmul e f) x := cancel (a := h) (by omega) fun x => by
        have := h9 x
        rw [ev_pmul, hf] at this
        rw [ev_pmul]; grind
      obtain ⟨y, hy⟩ := hdf
      exact ⟨pmul e y, fun x => by rw [this, ev_pmul, hy, ev_pmul]; grind⟩
theorem simple_free {w g s d : List Int} (hw : 0 < dg w) (hc : cont w = 1) (hg : Gc g w (pder w)) (hs : ∀ x, pev w x = pev g x * pev s x) (hd : Gc d s (pder s)) : dg d = 1 := by
  have hsw : Dv s w := ⟨g, fun x => by rw [hs]; grind⟩
  have hcs := hsw.prim_of hc
  have h0 : 0 < dg s := (hsw.deg hw).1
  have h1 := (hd.1.deg h0).1
  refine Classical.byContradiction fun hn => ?_
  obtain ⟨h, hh, hdv⟩ := irr_exists _ d (Nat.le_refl _) (hd.1.prim_of hcs) (by omega)
  have h2 := hdv.trans hd.1
  obtain ⟨k1, k2⟩ := simple_once hw hg hs hh (h2.trans hsw)
  obtain ⟨f, hf⟩ := h2
  refine k2 f hf ?_
  have h3 : Dv h (pmul (pder h) f) := (hdv.trans hd.2.1).sub (c := pmul h (pder f)) ⟨pder f, fun x => ev_pmul _ _ _⟩ fun x => by
    rw [pder_mul hf, ev_pmul, ev_pmul]; omega
  rcases irr_prime hh (fun x => ev_pmul _ _ _) h3 with h4 | h4
  · have h5 := pder_dg hh.2.1
    have := h4.deg (by have := hh.2.1; omega)
    omega
  · exact h4
theorem simple_power {w g s : List Int} (hw : 0 < dg w) (hg : Gc g w (pder w)) (hs : ∀ x, pev w x = pev g x * pev s x) : ∀ (n : Nat) (d : List Int), dg d ≤ n + 1 → cont d = 1 → Dv d w → Dv d (ppow s n)
  | n, d, hn, hc, hd => by
    have h0 := (hd.deg hw).1
    by_cases h1 : dg d = 1
    · have h2 : ∀ x, pev d x = d.getD 0 0 := const_ev (by omega)
      have h5 : cont d = (d.getD 0 0).natAbs := by
        have := cont_ext (l := d) (m := [d.getD 0 0]) fun x => by rw [h2]; simp [pev]
        rw [this]; simp [cont]
      have h6 : d.getD 0 0 * d.getD 0 0 = 1 := by
        have h7 := Int.natAbs_mul_self (a := d.getD 0 0)
        rw [← h5, hc] at h7; simpa using h7.symm
      have h3 : Dv d [1] := ⟨d, fun x => by rw [h2, h6]; simp [pev]⟩
      exact h3.trans ⟨ppow s n, fun x => by simp [pev]⟩
    · cases n with
      | zero => omega
      | succ n =>
        obtain ⟨h, hh, hdv⟩ := irr_exists _ d (Nat.le_refl _) hc (by omega)
        obtain ⟨e, he⟩ := hdv
        have h2 := hh.2.1
        have he0 : 0 < dg e := dg_pos fun z => by
          have := (dg_zero (l := d)).2 fun x => by rw [he, z]; simp
          omega
        have h3 := (mul_dg he (by omega) he0).1
        have hed : Dv e d := ⟨h, fun x => by rw [he]; grind⟩
        obtain ⟨a, ha⟩ := simple_power hw hg hs n e (by omega) (hed.prim_of hc) (hed.trans hd)
        obtain ⟨b, hb⟩ := (simple_once hw hg hs hh ((show Dv h d from ⟨e, he⟩).trans hd)).1
        exact ⟨pmul a b, fun x => by rw [ppow, ev_pmul, ha, hb, he, ev_pmul]; grind⟩
end Go.Proofs.Ytdnjahdppgjmlaa

namespace Go.Proofs.Ytdnjahdppgjmlaa
open Go.RowKit
theorem pDivide_meets (v w : Value) (p q : Row) (k l : Nat) (hp : Fit k p) (hq : Fit l q) (hk : k + (p.length + 1) * (l + 1) ≤ 137438953472) (lp : p.length ≤ 536870912) (lq : q.length ≤ 536870912) :
    Meets Try.prog 17 [v, w] [(v, V p), (w, V q)] (fun r os fs => os = [] ∧ ∃ a t e, r = .tuple #[a, .int .i64 e] ∧ DivSpec (vv p) (vv q) t e ∧ szR (k + (p.length + 1) * (l + 1)) t ∧ fs = [(a, vd t)]) :=
  (pDivideO_meets v w p q k l hp hq hk lp lq).closed fun r os fs ⟨a, t, e, h1, h2, h3, h4, h5, h6⟩ => by
    subst h5 h6
    exact ⟨[], [(a, vd t)], ⟨rfl, a, t, e, h1, h2, h4, rfl⟩, Seals.toldL h3⟩
theorem pDivideT (v w : Value) (p q : List Int) (k l : Nat) (hp : szR k p) (hq : szR l q) (hk : k + (p.length + 1) * (l + 1) ≤ 137438953472) (lp : p.length ≤ 536870912) (lq : q.length ≤ 536870912) :
    Meets Try.prog 17 [v, w] [(v, vd p), (w, vd q)] (fun r os fs => os = [] ∧ ∃ a t e, r = .tuple #[a, .int .i64 e] ∧ DivSpec p q t e ∧ szR (k + (p.length + 1) * (l + 1)) t ∧ fs = [(a, vd t)]) := by
  have h := pDivide_meets v w (p.map cn) (q.map cn) k l hp.fit hq.fit (by rw [List.length_map]; exact hk) (by rw [List.length_map]; exact lp) (by rw [List.length_map]; exact lq)
  rw [vv_cn, vv_cn, List.length_map] at h
  exact h
theorem lst_snoc (n : Nat) (f : Nat → Int) : lst (n + 1) f = lst n f ++ [f n] := by
  simp [lst, List.range_succ]
theorem sz_nat {i : Nat} (h : i < 18446744073709551616) : sz (i : Int) 1 := by
  unfold sz; rw [Int.natAbs_natCast]; omega
theorem pDerive_meets (v : Value) (p : Row) (k : Nat) (hp : Fit k p) (hk : k + 1 ≤ 137438953472) (lp : p.length ≤ 536870912) :
    Meets Try.prog 23 [v] [(v, V p)] (fun r os fs => os = [] ∧ fs = [(r, vd (pder (vv p)))]) := by
  have n1 := pNorm_meets v p (hp.mono (by omega)) (by omega)
  have sP := hp.szR.nrm
  have la : (nrm (vv p)).length ≤ p.length := Nat.le_trans (nrm_length_le _) (by rw [vv_len]; exact Nat.le_refl _)
  have hpd : pder (vv p) = pder (nrm (vv p)) := (pder_nm _).ext (pder_nm _) (pder_ext fun x => (ev_nrm _ x).symm)
  rw [hpd]
  generalize hA : nrm (vv p) = A at *
  have hg : ∀ i, sz (((i + 1 : Nat) : Int) * A.getD (i + 1) 0) (1 + k) ∨ 18446744073709551615 ≤ i := fun i => by
    by_cases h : i + 1 < 18446744073709551616
    · exact .inl ((sz_nat h).mul (sP.get _))
    · exact .inr (by omega)
  have hszL : szR (k + 1) (lst (A.length - 1) fun i => ((i + 1 : Nat) : Int) * A.getD (i + 1) 0) := szR.lst fun i hi => by
    rcases hg i with h | h
    · rw [Nat.add_comm 1 k] at h; exact h
    · omega
  have hdef : pder A = nrm (lst (A.length - 1) fun i => ((i + 1 : Nat) : Int) * A.getD (i + 1) 0) := rfl
  rw [hdef]
  generalize hG : (fun i => ((i + 1 : Nat) : Int) * A.getD (i + 1) 0) = g at *
  have hgi : ∀ i : Nat, 1 ≤ i → (i : Int) * A.getD i 0 = g (i - 1) := fun i hi => by
    rw [← hG]
    show _ = ((i - 1 + 1 : Nat) : Int) * A.getD (i - 1 + 1) 0
    rw [Nat.sub_add_cancel hi]
  refine meets_of_vc Try.func23 (by kernel_rfl) rfl (by kernel_rfl) (Nat.le_of_ble_eq_true rfl) ?_
  refine call_fn n1 (Seals.refl _ _) (by repeat (first | exact Sub.nil _ | refine Sub.cons (by repeat (first | exact List.Mem.head _ | apply List.Mem.tail)) ?_)) ?_
  rintro x1 _ _ ⟨rfl, rfl⟩
  refine loop_rule (X := Value × Nat) (fun x => ([(3, x1), (4, x.1), (5, .int .i64 (x.2 : Nat))], [ownL 2 J z0 x.1 ((lst (x.2 - 1) g).map cn)], [(x1, vd A)])) (fun x => isSl x.1 ∧ 1 ≤ x.2 ∧ (x.2 ≤ A.length ∨ x.2 = 1)) (fun x => A.length - x.2) rfl ?_ ?_
  · exact again (.slice none 0 0, 1) ⟨⟨_, _, _, rfl⟩, Nat.le_refl _, .inr rfl⟩ trivial (by repeat (first | exact trivial | refine ⟨rfl, ?_⟩ | refine ⟨i64_eq (by first | omega | (simp only; omega)), ?_⟩ | refine ⟨u64_eq (by first | omega | (simp only; omega)), ?_⟩)) (Seals.trans (Seals.own_nil _ _ 2 _) (Seals.sub (by repeat (first | exact Sub.nil _ | refine Sub.cons (by repeat (first | exact List.Mem.head _ | apply List.Mem.tail)) ?_))))
  · rintro ⟨vo, i⟩ ⟨hvo, h1, h2⟩
    simp only at hvo h1 h2 ⊢
    refine len_vd (by repeat (first | exact List.Mem.head _ | apply List.Mem.tail)) ?_
    refine cmp_split _ rfl (fun hlt => ?_) (fun hlt => ?_)
    · have hin : i < A.length := by omega
      have hai := sP.get i
      have hsi := sz_nat (i := i) (by omega)
      have hgi' := hgi i h1
      have hmul := fun u u' => zMulZ u u' (i : Int) (A.getD i 0) _ _ hsi hai (by omega) (by omega)
      rw [hgi'] at hmul
      have hl : lst (i - 1) g ++ [g (i - 1)] = lst (i + 1 - 1) g := by
        rw [← lst_snoc]; congr 1; omega
      have hll : (lst (i - 1) g).length = i - 1 := lst_len _ _
      refine draw_rule [0, 1, 3, 4, 5, 6, 2, 7, 8, 9, 10] [0, 1, 2, 3, 4, 5, 6, 7, 8, 9, 10] (by kernel_rfl) (by kernel_rfl) ?_
      refine index_vd (by repeat (first | exact List.Mem.head _ | apply List.Mem.tail)) i rfl hin fun b1 => ?_
      refine load_fact (d := zd (A.getD i 0)) (by repeat (first | exact List.Mem.head _ | apply List.Mem.tail)) (load_I _ _) fun y1 => ?_
      refine call_fn (zof_meets (i : Int) (by omega) (by omega)) (Seals.refl _ _) (by repeat (first | exact Sub.nil _ | refine Sub.cons (by repeat (first | exact List.Mem.head _ | apply List.Mem.tail)) ?_)) ?_
      rintro y2 _ _ ⟨rfl, rfl⟩
      refine call_fn (hmul y2 y1) (Seals.refl _ _) (by repeat (first | exact Sub.nil _ | refine Sub.cons (by repeat (first | exact List.Mem.head _ | apply List.Mem.tail)) ?_)) ?_
      rintro y3 _ _ ⟨rfl, rfl⟩
      refine lit_L (size := 2) (f := J) (z := z0) (e := 35) (cn (g (i - 1))) (by decide) (Reads.fact (by repeat (first | exact List.Mem.head _ | apply List.Mem.tail))) rfl fun y4 => ?_
      refine append_L (size := 2) (e := 35) (f := J) (z := z0) (l := (lst (i - 1) g).map cn) (m := [cn (g (i - 1))]) 0 rfl hvo (Knw.fact (by repeat (first | exact List.Mem.head _ | apply List.Mem.tail))) (by simp only [List.length_map, hll, List.length_cons, List.length_nil]; omega) (by simp only [List.length_map, hll, List.length_cons, List.length_nil]; omega) fun vn hvn => ?_
      refine ar rfl (by first | exact ⟨by omega, by omega⟩ | (simp only [inK]; omega)) ?_
      refine again (vn, i + 1) ⟨hvn, by simp only; omega, .inl (by simp only; omega)⟩ (by simp only; omega) (by repeat (first | exact trivial | refine ⟨rfl, ?_⟩ | refine ⟨i64_eq (by first | omega | (simp only; omega)), ?_⟩ | refine ⟨u64_eq (by first | omega | (simp only; omega)), ?_⟩)) ?_
      rw [show (lst (i - 1) g).map cn ++ [cn (g (i - 1))] = (lst (i + 1 - 1) g).map cn by rw [← hl, List.map_append]; rfl]
      exact Seals.sub (by repeat (first | exact Sub.nil _ | refine Sub.cons (by repeat (first | exact List.Mem.head _ | apply List.Mem.tail)) ?_))
    · have hii : lst (i - 1) g = lst (A.length - 1) g := by congr 1; omega
      rw [hii]
      refine call_fn (pNormT vo (lst (A.length - 1) g) (hszL.mono (by omega)) (by rw [lst_len]; omega)) (Seals.toldL hvo) (by repeat (first | exact Sub.nil _ | refine Sub.cons (by repeat (first | exact List.Mem.head _ | apply List.Mem.tail)) ?_)) ?_
      rintro r _ _ ⟨rfl, rfl⟩
      exact fin ⟨rfl, rfl⟩ (Seals.sub (by repeat (first | exact Sub.nil _ | refine Sub.cons (by repeat (first | exact List.Mem.head _ | apply List.Mem.tail)) ?_)))
theorem pDeriveT (v : Value) (p : List Int) (k : Nat) (hp : szR k p) (hk : k + 1 ≤ 137438953472) (lp : p.length ≤ 536870912) :
    Meets Try.prog 23 [v] [(v, vd p)] (fun r os fs => os = [] ∧ fs = [(r, vd (pder p))]) := by
  have h := pDerive_meets v (p.map cn) k hp.fit hk (by rw [List.length_map]; exact lp)
  rw [vv_cn] at h
  exact h
end Go.Proofs.Ytdnjahdppgjmlaa

namespace Go.Proofs.Ytdnjahdppgjmlaa
open Go.RowKit
end Go.Proofs.Ytdnjahdppgjmlaa

namespace Go.Proofs.Ytdnjahdppgjmlaa
open Go.RowKit
theorem pGcdT (v w : Value) (p q : List Int) (k n : Nat) (hp : szR k p) (hq : szR k q) (h1k : 1 ≤ k) (lp : p.length ≤ n) (lq : q.length ≤ n) (hn : n ≤ 536870912) (hk : ge k n n * (n + 2) ≤ 137438953472) :
    Meets Try.prog 32 [v, w] [(v, vd p), (w, vd q)] (fun r os fs => os = [] ∧ ∃ G, Nm G ∧ Gc G p q ∧ fs = [(r, vd G)]) := by
  have h := pGcd_meets v w (p.map cn) (q.map cn) k n hp.fit hq.fit h1k (by rw [List.length_map]; exact lp) (by rw [List.length_map]; exact lq) hn hk
  rw [vv_cn, vv_cn] at h
  exact h
/-- What Simple tells. -/
structure SimSpec (p s : List Int) : Prop where
  sn : Nm s
  zero : dg p = 0 → s = []
  ok : 0 < dg p → ∃ g, Gc g (pprim p) (pder (pprim p)) ∧ ∀ x, pev (pprim p) x = pev g x * pev s x
theorem SimSpec.unique {p s s' : List Int} (h : SimSpec p s) (h' : SimSpec p s') : s = s' := by
  by_cases h0 : dg p = 0
  · rw [h.zero h0, h'.zero h0]
  · obtain ⟨g, h1, h2⟩ := h.ok (by omega)
    obtain ⟨g', h3, h4⟩ := h'.ok (by omega)
    have hg : 0 < dg g := (h1.1.deg (by rw [pprim_dg]; omega)).1
    exact h.sn.ext h'.sn (cancel hg fun x => by rw [← h2, h4, h1.unique h3])
theorem szR.pder {k : Nat} {l : List Int} (h : szR k l) (hl : l.length ≤ 4294967296) : szR (k + 1) (pder l) := szR.nrm (szR.lst fun i hi => by
  have := (sz_nat (i := i + 1) (by omega)).mul (h.get (i + 1))
  rw [Nat.add_comm 1 k] at this; exact this)
theorem pder_len (l : List Int) : (pder l).length ≤ l.length := Nat.le_trans (nrm_length_le _) (by rw [lst_len]; omega)
theorem pSimple_meets (v : Value) (p : Row) (k n : Nat) (hp : Fit k p) (lp : p.length ≤ n) (hn : n ≤ 268435456) (hk : ge (k + 1) n n * (n + 2) ≤ 137438953472) (hd : k + (n + 1) * (dvk (k + 1) n + 1) ≤ 137438953472) :
    Meets Try.prog 29 [v] [(v, V p)] (fun r os fs => os = [] ∧ ∃ s, SimSpec (vv p) s ∧ szR (dvk k n) s ∧ fs = [(r, vd s)]) := by
  have hge : k + 2 ≤ ge (k + 1) n n := by
    unfold ge
    exact Nat.le_mul_of_pos_right _ (Nat.mul_pos (Nat.pow_pos (by decide)) (Nat.pow_pos (by decide)))
  have hge2 : ge (k + 1) n n * 2 ≤ ge (k + 1) n n * (n + 2) := Nat.mul_le_mul_left _ (by omega)
  have h1 := pPrimitive_meets v p k hp (by omega) (by omega)
  have sU := hp.szR.pprim
  have lU : (pprim (vv p)).length ≤ n := Nat.le_trans (pprim_len _) (Nat.le_trans (dg_le_len _) (by rw [vv_len]; exact lp))
  have nU := pprim_nm (vv p)
  have dU := pprim_dg (vv p)
  have hspec : ∀ s g, Nm s → 0 < dg (vv p) → Gc g (pprim (vv p)) (pder (pprim (vv p))) → (∀ x, pev (pprim (vv p)) x = pev g x * pev s x) → SimSpec (vv p) s := fun s g a1 a2 a3 a4 => ⟨a1, fun h => by omega, fun _ => ⟨g, a3, a4⟩⟩
  have hzero : dg (vv p) = 0 → SimSpec (vv p) [] := fun h => ⟨rfl, fun _ => rfl, fun h' => by omega⟩
  rw [dg_nm nU] at dU
  generalize hU : pprim (vv p) = u at *
  have sD := sU.pder (by omega)
  have lD := pder_len u
  refine meets_of_vc Try.func29 (by kernel_rfl) rfl (by kernel_rfl) (Nat.le_of_ble_eq_true rfl) ?_
  refine call_fn h1 (Seals.refl _ _) (by repeat (first | exact Sub.nil _ | refine Sub.cons (by repeat (first | exact List.Mem.head _ | apply List.Mem.tail)) ?_)) ?_
  rintro x1 _ _ ⟨rfl, rfl⟩
  refine len_vd (by repeat (first | exact List.Mem.head _ | apply List.Mem.tail)) ?_
  refine cmp_split _ rfl (fun hz => ?_) (fun hz => ?_)
  · exact fin ⟨rfl, [], hzero (by omega), fun x hx => by simp at hx, rfl⟩ (Seals.cons (Knw.nil 2 _) (Seals.nil _ _))
  · have hu0 : 0 < dg u := by rw [dg_nm nU]; omega
    refine call_fn (pDeriveT x1 u k sU (by omega) (by omega)) (Seals.refl _ _) (by repeat (first | exact Sub.nil _ | refine Sub.cons (by repeat (first | exact List.Mem.head _ | apply List.Mem.tail)) ?_)) ?_
    rintro x2 _ _ ⟨rfl, rfl⟩
    refine call_fn (pGcdT x1 x2 u (pder u) (k + 1) n (sU.mono (by omega)) sD (by omega) lU (by omega) (by omega) hk) (Seals.refl _ _) (by repeat (first | exact Sub.nil _ | refine Sub.cons (by repeat (first | exact List.Mem.head _ | apply List.Mem.tail)) ?_)) ?_
    rintro x3 _ _ ⟨rfl, G, nG, gG, rfl⟩
    have hGd := gG.1.deg hu0
    have sG : szR (dvk (k + 1) n) G := dv_szR gG.1 hu0 (sU.mono (by omega)) nG (by rw [dg_nm nU]; exact lU) (by omega)
    have lG : G.length ≤ n := by rw [← dg_nm nG]; rw [dg_nm nU] at hGd; omega
    have hdd : k + (u.length + 1) * (dvk (k + 1) n + 1) ≤ 137438953472 := by
      have : (u.length + 1) * (dvk (k + 1) n + 1) ≤ (n + 1) * (dvk (k + 1) n + 1) := Nat.mul_le_mul_right _ (by omega)
      omega
    refine call_fn (pDivideT x1 x3 u G k _ sU sG hdd (by omega) (by omega)) (Seals.refl _ _) (by repeat (first | exact Sub.nil _ | refine Sub.cons (by repeat (first | exact List.Mem.head _ | apply List.Mem.tail)) ?_)) ?_
    rintro _ _ _ ⟨rfl, a, t, e, rfl, hsp, _, rfl⟩
    obtain ⟨_, ht⟩ := hsp.ok hGd.1 gG.1
    have hs := hspec t G hsp.tn (by omega) gG ht
    have st : szR (dvk k n) t := dv_szR ⟨G, fun x => by rw [ht, Int.mul_comm]⟩ hu0 sU hsp.tn (by rw [dg_nm nU]; exact lU) (by omega)
    exact fin ⟨rfl, t, hs, st, rfl⟩ (Seals.sub (by repeat (first | exact Sub.nil _ | refine Sub.cons (by repeat (first | exact List.Mem.head _ | apply List.Mem.tail)) ?_)))
end Go.Proofs.Ytdnjahdppgjmlaa

namespace Go.Proofs.Ytdnjahdppgjmlaa
open Go.RowKit
/-- p at x + a. -/
def pshi (a : Int) : List Int → List Int
  | [] => []
  | c :: l => padd [c] (pmul [a, 1] (pshi a l))
theorem pshi_nm (a : Int) : ∀ l : List Int, Nm (pshi a l)
  | [] => rfl
  | _ :: _ => padd_nm _ _
theorem ev_pshi (a : Int) : ∀ (l : List Int) (x : Int), pev (pshi a l) x = pev l (x + a)
  | [], x => rfl
  | c :: l, x => by
    rw [pshi, ev_padd, ev_pmul, ev_pshi a l]
    simp only [pev]; grind
theorem ev_lst_snoc (n : Nat) (f : Nat → Int) (x : Int) : pev (lst (n + 1) f) x = pev (lst n f) x + x ^ n * f n := by
  rw [lst_snoc, ev_append, lst_len]; simp [pev]
/-- Of the numbers from i on, those above m are already moved. -/
def ShI (n : Nat) (a : Int) (U : Int → Int) (f : Nat → Int) (i m : Nat) : Prop :=
  ∀ x, U x = pev (lst (m - i) fun y => f (i + y)) x + x ^ (m - i) * (f m + (x - a) * pev (lst (n - 1 - m) fun y => f (m + 1 + y)) x)
def ShO (n : Nat) (a : Int) (P : Int → Int) (f : Nat → Int) (i : Nat) : Prop :=
  ∀ x, P x = pev (lst i f) (x - a) + (x - a) ^ i * pev (lst (n - i) fun y => f (i + y)) x
theorem ShI.start {n i : Nat} {a : Int} {f : Nat → Int} (h : i < n) : ShI n a (fun x => pev (lst (n - i) fun y => f (i + y)) x) f i (n - 1) := fun x => by
  have e : n - i = (n - 1 - i) + 1 := by omega
  have e2 : i + (n - 1 - i) = n - 1 := by omega
  simp only
  rw [e, ev_lst_snoc, e2, show n - 1 - (n - 1) = 0 by omega]
  simp [lst, pev]
theorem ShI.step {n i m : Nat} {a : Int} {U : Int → Int} {f : Nat → Int} (h : ShI n a U f i m) (hm : i < m) (hn : m ≤ n - 1) : ShI n a U (put f (m - 1) (f (m - 1) + a * f m)) i (m - 1) := fun x => by
  rw [h x]
  have e : m - i = (m - 1 - i) + 1 := by omega
  have e2 : i + (m - 1 - i) = m - 1 := by omega
  have e3 : n - 1 - (m - 1) = (n - 1 - m) + 1 := by omega
  have c1 : lst (m - 1 - i) (fun y => put f (m - 1) (f (m - 1) + a * f m) (i + y)) = lst (m - 1 - i) fun y => f (i + y) := lst_congr fun y hy => by unfold put; rw [if_neg (by omega)]
  have c2 : lst (n - 1 - m) (fun y => put f (m - 1) (f (m - 1) + a * f m) (m - 1 + 1 + (y + 1))) = lst (n - 1 - m) fun y => f (m + 1 + y) := lst_congr fun y hy => by unfold put; rw [if_neg (by omega)]; congr 1; omega
  have c3 : put f (m - 1) (f (m - 1) + a * f m) (m - 1 + 1 + 0) = f m := by unfold put; rw [if_neg (by omega)]; congr 1; omega
  have c4 : put f (m - 1) (f (m - 1) + a * f m) (m - 1) = f (m - 1) + a * f m := by unfold put; rw [if_pos rfl]
  rw [e, ev_lst_snoc, e2, e3, ev_lst_succ, c1, c2, c3, c4, Int.pow_succ]
  grind
theorem ShO.next {n i : Nat} {a : Int} {P : Int → Int} {f f' : Nat → Int} (h : ShO n a P f i) (hi : i < n) (hs : ShI n a (fun x => pev (lst (n - i) fun y => f (i + y)) x) f' i i) (hf : ∀ y, y < i → f' y = f y) : ShO n a P f' (i + 1) := fun x => by
  have h1 := hs x
  simp only [Nat.sub_self, Int.pow_zero] at h1
  have c1 : lst i f = lst i f' := lst_congr fun y hy => (hf y hy).symm
  rw [h x, h1, c1, ev_lst_snoc, show n - (i + 1) = n - 1 - i by omega, Int.pow_succ]
  simp only [lst, List.range_zero, List.map_nil, pev]
  grind
theorem pShiftJ (v w : Value) (p : Row) (aj : Bool × List Nat) (k b : Nat) (hp : Fit k p) (hal : Lim aj.2) (hab : aj.2.length ≤ b) (hk : k + p.length * p.length * (b + 1) + b + 1 ≤ 137438953472) (lp : p.length ≤ 536870912) :
    Meets Try.prog 26 [v, w] [(v, V p), (w, J aj)] (fun r os fs => os = [] ∧ fs = [(r, vd (pshi (jv aj) (vv p)))]) := by
  have ha : sz (jv aj) b := sz_jv hal hab
  obtain ⟨a, haj⟩ : ∃ a, jv aj = a := ⟨_, rfl⟩
  rw [haj] at ha ⊢
  have h1 := pNormO_meets v p (hp.mono (by omega)) (by omega)
  have sa := hp.szR.nrm
  have la : (nrm (vv p)).length ≤ p.length := Nat.le_trans (nrm_length_le _) (by rw [vv_len]; exact Nat.le_refl _)
  have hfin : ∀ f : Nat → Int, ShO (nrm (vv p)).length a (pev (nrm (vv p))) f (nrm (vv p)).length → nrm (lst (nrm (vv p)).length f) = pshi a (vv p) := fun f h => (Nm.nrm _).ext (pshi_nm _ _) fun x => by
    rw [ev_nrm, ev_pshi, ← ev_nrm (vv p), h (x + a), Nat.sub_self]
    simp [lst, pev]
  generalize hA : nrm (vv p) = A at *
  have hml : (A.map cn).length = A.length := List.length_map _
  have hnn : A.length * A.length * (b + 1) ≤ p.length * p.length * (b + 1) := Nat.mul_le_mul_right _ (Nat.mul_le_mul la la)
  have hbd : ∀ i m, i < A.length → m ≤ A.length - 1 → (i * A.length + (A.length - 1 - m)) * (b + 1) + (b + 1) ≤ A.length * A.length * (b + 1) := fun i m hi hm => by
    have q1 : (i + 1) * A.length ≤ A.length * A.length := Nat.mul_le_mul_right _ hi
    have q2 : (i + 1) * A.length = i * A.length + A.length := Nat.succ_mul _ _
    have q3 : (i * A.length + (A.length - 1 - m) + 1) * (b + 1) ≤ A.length * A.length * (b + 1) := Nat.mul_le_mul_right _ (by omega)
    rw [Nat.succ_mul] at q3
    exact q3
  have hon : ∀ i, (i + 1) * A.length = i * A.length + A.length := fun i => Nat.succ_mul _ _
  have hE : ∀ i, i ≤ A.length → i * A.length * (b + 1) ≤ A.length * A.length * (b + 1) := fun i hi => Nat.mul_le_mul_right _ (Nat.mul_le_mul_right _ hi)
  refine meets_of_vc Try.func26 (by kernel_rfl) rfl (by kernel_rfl) (Nat.le_of_ble_eq_true rfl) ?_
  refine box_fact (Reads.fact (d := J aj) (by repeat (first | exact List.Mem.head _ | apply List.Mem.tail))) fun px => ?_
  refine call_fn h1 (Seals.refl _ _) (by repeat (first | exact Sub.nil _ | refine Sub.cons (by repeat (first | exact List.Mem.head _ | apply List.Mem.tail)) ?_)) ?_
  rintro r _ _ ⟨hr, rfl, rfl⟩
  refine len_own 0 rfl hr fun _ => ?_
  refine loop_rule (X := Nat × (Nat → Int)) (fun x => ([(3, px), (5, r), (11, .int .i64 ((A.map cn).length : Nat)), (12, .int .i64 (x.1 : Nat))], [own1 r 2 A.length (fun y => zd (x.2 y))], [(px, .ptr (J aj))]))
    (fun x => x.1 ≤ A.length ∧ ShO A.length a (pev A) x.2 x.1 ∧ ∀ y, sz (x.2 y) (k + x.1 * A.length * (b + 1))) (fun x => A.length - x.1) rfl ?_ ?_
  · refine again (0, fun y => A.getD y 0) ⟨Nat.zero_le _, fun x => ?_, fun y => by simp only [Nat.zero_mul, Nat.add_zero]; exact sa.get y⟩ trivial (by repeat (first | exact trivial | refine ⟨rfl, ?_⟩ | refine ⟨i64_eq (by first | omega | (simp only; omega)), ?_⟩ | refine ⟨u64_eq (by first | omega | (simp only; omega)), ?_⟩)) (Seals.trans (own_told fun y _ => rfl) (Seals.sub (by repeat (first | exact Sub.nil _ | refine Sub.cons (by repeat (first | exact List.Mem.head _ | apply List.Mem.tail)) ?_))))
    simp only [Nat.sub_zero, Nat.zero_add, Int.pow_zero]
    rw [ev_lst (Nat.le_refl _)]
    simp [lst, pev]
  · rintro ⟨i, f⟩ ⟨g1, g2, g3⟩
    simp only at g1 g2 g3 ⊢
    refine cmp_split _ rfl (fun hlt => ?_) (fun hlt => ?_)
    · have hin : i < A.length := by omega
      refine len_own 0 rfl hr fun _ => ?_
      refine ar rfl (by first | exact ⟨by omega, by omega⟩ | (simp only [inK]; omega)) ?_
      refine loop_rule (X := (Nat → Int) × Nat) (fun x => ([(3, px), (5, r), (11, .int .i64 ((A.map cn).length : Nat)), (12, .int .i64 (i : Nat)), (6, .int .i64 (i : Nat)), (7, .int .i64 ((x.2 : Int) - 1))], [own1 r 2 A.length (fun y => zd (x.1 y))], [(px, .ptr (J aj))]))
        (fun x => i ≤ x.2 ∧ x.2 ≤ A.length - 1 ∧ ShI A.length a (fun x => pev (lst (A.length - i) fun y => f (i + y)) x) x.1 i x.2 ∧ (∀ y, y < i → x.1 y = f y) ∧ ∀ y, sz (x.1 y) (k + (i * A.length + (A.length - 1 - x.2)) * (b + 1))) (fun x => x.2) rfl ?_ ?_
      · exact again (f, A.length - 1) ⟨by simp only; omega, Nat.le_refl _, ShI.start hin, fun _ _ => rfl, fun y => (g3 y).mono (by simp only [Nat.sub_self, Nat.add_zero]; exact Nat.le_refl _)⟩ trivial (by repeat (first | exact trivial | refine ⟨rfl, ?_⟩ | refine ⟨i64_eq (by first | omega | (simp only; omega)), ?_⟩ | refine ⟨u64_eq (by first | omega | (simp only; omega)), ?_⟩)) (Seals.sub (by repeat (first | exact Sub.nil _ | refine Sub.cons (by repeat (first | exact List.Mem.head _ | apply List.Mem.tail)) ?_)))
      · rintro ⟨h, m⟩ ⟨q1, q2, q3, q4, q5⟩
        simp only at q1 q2 q3 q4 q5 ⊢
        have hb1 := hbd i m hin q2
        refine cmp_split _ rfl (fun hge => ?_) (fun hge => ?_)
        · have him : i < m := by omega
          have hs3 := q3.step him q2
          have z1 := q5 (m - 1)
          have z2 := q5 m
          have hsum : sz (h (m - 1) + a * h m) (k + (i * A.length + (A.length - 1 - (m - 1))) * (b + 1)) := by
            have t1 := sz_sub (z1.mono (Nat.le_add_left _ b)) ((ha.mul z2).neg)
            rw [Int.sub_neg] at t1
            refine t1.mono ?_
            have : i * A.length + (A.length - 1 - (m - 1)) = (i * A.length + (A.length - 1 - m)) + 1 := by omega
            rw [this, Nat.succ_mul]; omega
          have hmono : k + (i * A.length + (A.length - 1 - m)) * (b + 1) ≤ k + (i * A.length + (A.length - 1 - (m - 1))) * (b + 1) := Nat.add_le_add_left (Nat.mul_le_mul_right _ (by omega)) _
          have hpz : ∀ y, sz (put h (m - 1) (h (m - 1) + a * h m) y) (k + (i * A.length + (A.length - 1 - (m - 1))) * (b + 1)) := fun y => by
            unfold put; split
            · exact hsum
            · exact (q5 y).mono hmono
          have hpl : ∀ y, y < i → put h (m - 1) (h (m - 1) + a * h m) y = f y := fun y hy => by unfold put; rw [if_neg (by omega)]; exact q4 y hy
          have hup : ∀ y, upd (fun y => zd (h y)) (m - 1) (zd (h (m - 1) + a * h m)) y = zd (put h (m - 1) (h (m - 1) + a * h m) y) := fun y =>
            upd_zd (G := h) (H := put h (m - 1) (h (m - 1) + a * h m)) (by unfold put; rw [if_pos rfl]) (fun y hy => by unfold put; rw [if_neg hy]) y
          refine draw_rule [0, 1, 2, 3, 4, 5, 6, 7, 8, 9, 10, 11, 12, 13, 14, 15] [0, 1, 2, 3, 4, 5, 6, 7, 8, 9, 10, 11, 12, 13, 14, 15] (by kernel_rfl) (by kernel_rfl) ?_
          refine index_elem 0 rfl hr (m - 1) (by omega) (by omega) ?_
          refine load_elem' (d := zd (h (m - 1))) 0 rfl (m - 1) (by omega) rfl (load_I _ _) fun y1 => ?_
          refine load_fact (d := J aj) (by repeat (first | exact List.Mem.head _ | apply List.Mem.tail)) (load_J _) fun y2 => ?_
          refine ar rfl (by first | exact ⟨by omega, by omega⟩ | (simp only [inK]; omega)) ?_
          refine index_elem 0 rfl hr m (by omega) (by omega) ?_
          refine load_elem' (d := zd (h m)) 0 rfl m (by omega) rfl (load_I _ _) fun y3 => ?_
          have hmul := zMulJZ y2 y3 aj _ _ hal (by omega) z2 (by omega)
          rw [haj] at hmul
          refine call_fn hmul (Seals.refl _ _) (by repeat (first | exact Sub.nil _ | refine Sub.cons (by repeat (first | exact List.Mem.head _ | apply List.Mem.tail)) ?_)) ?_
          rintro y4 _ _ ⟨rfl, rfl⟩
          refine call_fn (zAddZ y1 y4 _ _ _ _ z1 (ha.mul z2) (by omega) (by omega)) (Seals.refl _ _) (by repeat (first | exact Sub.nil _ | refine Sub.cons (by repeat (first | exact List.Mem.head _ | apply List.Mem.tail)) ?_)) ?_
          rintro y5 _ _ ⟨rfl, rfl⟩
          refine index_elem 0 rfl hr (m - 1) (by omega) (by omega) ?_
          refine StoreK.post (store_elem (d := zd (h (m - 1) + a * h m)) 0 rfl (m - 1) (by omega) rfl (by kernel_rfl) (Reads.fact (by repeat (first | exact List.Mem.head _ | apply List.Mem.tail))) ⟨_, _, Seals.own_cong (os := [_]) 0 (fun y => zd (put h (m - 1) (h (m - 1) + a * h m) y)) rfl rfl (fun y _ => hup y), ?_⟩)
          refine ar rfl (by first | exact ⟨by omega, by omega⟩ | (simp only [inK]; omega)) ?_
          exact again (put h (m - 1) (h (m - 1) + a * h m), m - 1) ⟨by simp only; omega, by simp only; omega, hs3, hpl, hpz⟩ (by simp only; omega) (by repeat (first | exact trivial | refine ⟨rfl, ?_⟩ | refine ⟨i64_eq (by first | omega | (simp only; omega)), ?_⟩ | refine ⟨u64_eq (by first | omega | (simp only; omega)), ?_⟩)) (Seals.sub (by repeat (first | exact Sub.nil _ | refine Sub.cons (by repeat (first | exact List.Mem.head _ | apply List.Mem.tail)) ?_)))
        · have him : m = i := by omega
          subst him
          refine ar rfl (by first | exact ⟨by omega, by omega⟩ | (simp only [inK]; omega)) ?_
          refine again (m + 1, h) ⟨by simp only; omega, g2.next hin q3 q4, fun y => (q5 y).mono ?_⟩ (by simp only; omega) (by repeat (first | exact trivial | refine ⟨rfl, ?_⟩ | refine ⟨i64_eq (by first | omega | (simp only; omega)), ?_⟩ | refine ⟨u64_eq (by first | omega | (simp only; omega)), ?_⟩)) (Seals.sub (by repeat (first | exact Sub.nil _ | refine Sub.cons (by repeat (first | exact List.Mem.head _ | apply List.Mem.tail)) ?_)))
          simp only
          rw [hon]
          exact Nat.add_le_add_left (Nat.mul_le_mul_right _ (by omega)) _
    · have hip : i = A.length := by omega
      subst hip
      have hE' := hE A.length (Nat.le_refl _)
      have hn := pNormT r (lst A.length f) ((szR.lst fun y _ => g3 y).mono (by omega)) (by rw [lst_len]; omega)
      rw [hfin f g2] at hn
      refine call_fn hn (Seals.told (g := f) hr fun y _ => rfl) (by repeat (first | exact Sub.nil _ | refine Sub.cons (by repeat (first | exact List.Mem.head _ | apply List.Mem.tail)) ?_)) ?_
      rintro u _ _ ⟨rfl, rfl⟩
      exact fin ⟨rfl, rfl⟩ (Seals.sub (by repeat (first | exact Sub.nil _ | refine Sub.cons (by repeat (first | exact List.Mem.head _ | apply List.Mem.tail)) ?_)))
theorem pShift_meets (v w : Value) (p : Row) (a : Int) (k b : Nat) (hp : Fit k p) (ha : sz a b) (hk : k + p.length * p.length * (b + 1) + b + 1 ≤ 137438953472) (lp : p.length ≤ 536870912) :
    Meets Try.prog 26 [v, w] [(v, V p), (w, zd a)] (fun r os fs => os = [] ∧ fs = [(r, vd (pshi a (vv p)))]) := by
  have h := pShiftJ v w p (cn a) k b hp (Lim_lims _) ha.len hk lp
  rw [jv_cn] at h
  exact h
end Go.Proofs.Ytdnjahdppgjmlaa

namespace Go.Proofs.Ytdnjahdppgjmlaa
open Go.RowKit
end Go.Proofs.Ytdnjahdppgjmlaa

namespace Go.Proofs.Ytdnjahdppgjmlaa
open Go.RowKit
end Go.Proofs.Ytdnjahdppgjmlaa

namespace Go.Proofs.Ytdnjahdppgjmlaa
open Go.RowKit
theorem deg_dg (l : List Int) : deg l = (dg l : Int) - 1 := by
  have h1 := degTo_le l l.length (dg l) (dg_le_len l) fun j h _ => dg_le.1 (Nat.le_refl _) j h
  unfold deg
  rw [h1]
  by_cases h0 : dg l = 0
  · rw [h0]; rfl
  · have h2 := ld_ne (l := l) (by omega)
    unfold ld at h2
    obtain ⟨m, hm⟩ : ∃ m, dg l = m + 1 := ⟨dg l - 1, by omega⟩
    rw [hm] at h2 ⊢
    simp only [degTo, Nat.add_sub_cancel] at h2 ⊢
    rw [if_neg h2]; omega
end Go.Proofs.Ytdnjahdppgjmlaa

namespace Go.Proofs.Ytdnjahdppgjmlaa
open Go.RowKit
end Go.Proofs.Ytdnjahdppgjmlaa

namespace Go.Proofs.Ytdnjahdppgjmlaa
open Go.RowKit
end Go.Proofs.Ytdnjahdppgjmlaa

namespace Go.Proofs.Ytdnjahdppgjmlaa
open Go.RowKit
theorem poly_meets (v : Value) (l : List Int) (hl : l.length ≤ 1000) (hz : ∀ x, x ∈ l → -9223372036854775808 ≤ x ∧ x < 9223372036854775808) :
    Meets Try.prog 30 [v] [(v, IL l)] (fun r os fs => os = [] ∧ fs = [(r, vd l)]) := by
  have hfin : lst l.length (fun i => l.getD i 0) = l := by
    have := lst_map l fun x => x
    rw [List.map_id'] at this
    exact this
  have hg : ∀ i, i < l.length → -9223372036854775808 ≤ l.getD i 0 ∧ l.getD i 0 < 9223372036854775808 := fun i hi => hz _ (getD_mem 0 hi)
  refine meets_of_vc Try.func30 (by kernel_rfl) rfl (by kernel_rfl) (Nat.le_of_ble_eq_true rfl) ?_
  refine empty_L (size := 2) (e := 35) J z0 (by decide) fun v0 hv0 => ?_
  refine loop_rule (X := Value × Nat) (fun x => ([(0, v), (3, x.1), (4, .int .i64 (x.2 : Nat))], [ownL 2 J z0 x.1 ((lst x.2 fun i => l.getD i 0).map cn)], [(v, IL l)])) (fun x => isSl x.1 ∧ x.2 ≤ l.length) (fun x => l.length - x.2) rfl ?_ ?_
  · exact again (v0, 0) ⟨hv0, Nat.zero_le _⟩ trivial (by repeat (first | exact trivial | refine ⟨rfl, ?_⟩ | refine ⟨i64_eq (by first | omega | (simp only; omega)), ?_⟩ | refine ⟨u64_eq (by first | omega | (simp only; omega)), ?_⟩)) (Seals.sub (by repeat (first | exact Sub.nil _ | refine Sub.cons (by repeat (first | exact List.Mem.head _ | apply List.Mem.tail)) ?_)))
  · rintro ⟨vo, i⟩ ⟨hvo, h2⟩
    simp only at hvo h2 ⊢
    refine len_fact (by repeat (first | exact List.Mem.head _ | apply List.Mem.tail)) fun _ => ?_
    refine cmp_split _ rfl (fun hlt => ?_) (fun hlt => ?_)
    · have hin : i < l.length := by omega
      have hll : (lst i fun i => l.getD i 0).length = i := lst_len _ _
      refine index_fact (by repeat (first | exact List.Mem.head _ | apply List.Mem.tail)) i rfl hin fun a1 => ?_
      refine load_one (by repeat (first | exact List.Mem.head _ | apply List.Mem.tail)) ?_
      refine call_fn (rOf_meets (l.getD i 0) (hg i hin).1 (hg i hin).2) (Seals.refl _ _) (by repeat (first | exact Sub.nil _ | refine Sub.cons (by repeat (first | exact List.Mem.head _ | apply List.Mem.tail)) ?_)) ?_
      rintro y _ _ ⟨rfl, rfl⟩
      refine lit_L (size := 2) (f := J) (z := z0) (e := 35) (cn (l.getD i 0)) (by decide) (Reads.fact (by repeat (first | exact List.Mem.head _ | apply List.Mem.tail))) rfl fun y4 => ?_
      refine append_L (size := 2) (e := 35) (f := J) (z := z0) (l := (lst i fun i => l.getD i 0).map cn) (m := [cn (l.getD i 0)]) 0 rfl hvo (Knw.fact (by repeat (first | exact List.Mem.head _ | apply List.Mem.tail))) (by simp only [List.length_map, hll, List.length_cons, List.length_nil]; omega) (by simp only [List.length_map, hll, List.length_cons, List.length_nil]; omega) fun vn hvn => ?_
      refine ar rfl (by first | exact ⟨by omega, by omega⟩ | (simp only [inK]; omega)) ?_
      refine again (vn, i + 1) ⟨hvn, by simp only; omega⟩ (by simp only; omega) (by repeat (first | exact trivial | refine ⟨rfl, ?_⟩ | refine ⟨i64_eq (by first | omega | (simp only; omega)), ?_⟩ | refine ⟨u64_eq (by first | omega | (simp only; omega)), ?_⟩)) ?_
      rw [show (lst i fun i => l.getD i 0).map cn ++ [cn (l.getD i 0)] = (lst (i + 1) fun i => l.getD i 0).map cn by rw [lst_snoc, List.map_append]; rfl]
      exact Seals.sub (by repeat (first | exact Sub.nil _ | refine Sub.cons (by repeat (first | exact List.Mem.head _ | apply List.Mem.tail)) ?_))
    · have hii : i = l.length := by omega
      subst hii
      refine fin ⟨rfl, rfl⟩ (Seals.trans (Seals.toldL hvo) ?_)
      rw [hfin]
      exact Seals.sub (by repeat (first | exact Sub.nil _ | refine Sub.cons (by repeat (first | exact List.Mem.head _ | apply List.Mem.tail)) ?_))
theorem sameP_meets (v w : Value) (a b : Row) :
    Meets Try.prog 19 [v, w] [(v, V a), (w, V b)] (fun r os fs => os = [] ∧ fs = [] ∧ r = .bool (decide (a = b))) := by
  refine meets_of_vc Try.func19 (by kernel_rfl) rfl (by kernel_rfl) (Nat.le_of_ble_eq_true rfl) ?_
  refine call_fn (exactAll_meets v w a b) (Seals.refl _ _) (by repeat (first | exact Sub.nil _ | refine Sub.cons (by repeat (first | exact List.Mem.head _ | apply List.Mem.tail)) ?_)) ?_
  rintro _ _ _ ⟨rfl, rfl, rfl⟩
  exact fin ⟨rfl, rfl, rfl⟩ (Seals.nil _ _)
/-- Two told lists that are the same. -/
theorem sameT (v w : Value) (x y : List Int) (h : x = y) :
    Meets Try.prog 19 [v, w] [(v, vd x), (w, vd y)] (fun r os fs => os = [] ∧ fs = [] ∧ r = .bool true) := by
  have := sameP_meets v w (x.map cn) (y.map cn)
  rw [decide_eq_true (by rw [h])] at this
  exact this
end Go.Proofs.Ytdnjahdppgjmlaa

namespace Go.Proofs.Ytdnjahdppgjmlaa
open Go.RowKit
/-- A row, what it stands for, its limbs and length. -/
structure Lk (A : Row) (l : List Int) (k n : Nat) : Prop where
  val : vv A = l
  fit : Fit k A
  len : A.length ≤ n
theorem Lk.raw {n c : Nat} {p : Row} (h : smallR n c p) (hl : limR p) : Lk p (vv p) c n := ⟨rfl, h.fit hl, h.1⟩
theorem Lk.told {l : List Int} {k n : Nat} (h : szR k l) (hn : l.length ≤ n) : Lk (l.map cn) l k n := ⟨vv_cn l, h.fit, by rw [List.length_map]; exact hn⟩
theorem Lk.sz {A : Row} {l : List Int} {k n : Nat} (h : Lk A l k n) : szR k l := by rw [← h.val]; exact h.fit.szR
theorem Lk.ll {A : Row} {l : List Int} {k n : Nat} (h : Lk A l k n) : l.length ≤ n := by rw [← h.val, vv_len]; exact h.len
theorem Lk.mono {A : Row} {l : List Int} {k n k' n' : Nat} (h : Lk A l k n) (hk : k ≤ k') (hn : n ≤ n') : Lk A l k' n' := ⟨h.val, h.fit.mono hk, Nat.le_trans h.len hn⟩
theorem pmul_len (l m : List Int) : (pmul l m).length ≤ l.length + m.length := by
  by_cases h1 : 0 < dg l
  · by_cases h2 : 0 < dg m
    · have := (pmul_dg h1 h2).1
      rw [dg_nm (pmul_nm l m)] at this
      have a1 := dg_le_len l
      have a2 := dg_le_len m
      omega
    · have : pmul l m = [] := (pmul_nm l m).ext Nm.nil fun x => by rw [ev_pmul, dg_zero.1 (show dg m = 0 by omega)]; simp [pev]
      rw [this]; exact Nat.zero_le _
  · have : pmul l m = [] := (pmul_nm l m).ext Nm.nil fun x => by rw [ev_pmul, dg_zero.1 (show dg l = 0 by omega)]; simp [pev]
    rw [this]; exact Nat.zero_le _
theorem szR.pmul {k j : Nat} {l m : List Int} (h : szR k l) (h' : szR j m) (hl : l.length < 18446744073709551616) : szR (k + j + 1) (pmul l m) := by
  have hn : (Go.Proofs.Ytdnjahdppgjmlaa.nrm l).length ≤ l.length := nrm_length_le l
  unfold Go.Proofs.Ytdnjahdppgjmlaa.pmul
  simp only
  split
  · exact fun x hx => by simp at hx
  · exact szR.nrm (szR.lst fun i _ => conv_sz h.nrm h'.nrm (by omega) i)
section
variable {A B : Row} {l m : List Int} {k j n n' : Nat}
theorem Lk.nrm (h : Lk A l k n) : Lk ((nrm l).map cn) (Go.Proofs.Ytdnjahdppgjmlaa.nrm l) k n := Lk.told h.sz.nrm (Nat.le_trans (nrm_length_le _) h.ll)
theorem Lk.add (h : Lk A l k n) (h' : Lk B m k n) : Lk ((padd l m).map cn) (padd l m) (k + 1) n := Lk.told (h.sz.padd h'.sz) (Nat.le_trans (padd_len _ _) (Nat.max_le.2 ⟨h.ll, h'.ll⟩))
theorem Lk.sub (h : Lk A l k n) (h' : Lk B m k n) : Lk ((psub l m).map cn) (psub l m) (k + 1) n := Lk.told (h.sz.psub h'.sz) (Nat.le_trans (psub_len _ _) (Nat.max_le.2 ⟨h.ll, h'.ll⟩))
theorem Lk.mul (h : Lk A l k n) (h' : Lk B m j n') (hn : n < 1073741824) : Lk ((pmul l m).map cn) (pmul l m) (k + j + 1) (n + n') := Lk.told (h.sz.pmul h'.sz (by have := h.ll; omega)) (by have := pmul_len l m; have := h.ll; have := h'.ll; omega)
theorem Lk.der (h : Lk A l k n) (hn : n ≤ 1073741824) : Lk ((pder l).map cn) (pder l) (k + 1) n := Lk.told (h.sz.pder (by have := h.ll; omega)) (Nat.le_trans (pder_len l) h.ll)
theorem Lk.pri (h : Lk A l k n) : Lk ((pprim l).map cn) (pprim l) k n := Lk.told h.sz.pprim (Nat.le_trans (Nat.le_trans (pprim_len l) (dg_le_len l)) h.ll)
theorem xDegree (v : Value) (h : Lk A l k n) (hk : k ≤ 137438953472 := by decide) :
    Meets Try.prog 31 [v] [(v, V A)] (fun r os fs => os = [] ∧ fs = [] ∧ r = .int .i64 ((dg l : Nat) - 1 : Int)) := by
  have := pDegree_meets v A (h.fit.mono hk)
  rw [h.val, deg_dg] at this; exact this
theorem xMul (v w : Value) (h : Lk A l k n) (h' : Lk B m j n') (hk : k + j + 1 ≤ 137438953472 := by decide) (hn : n ≤ 1073741824 := by decide) (hn' : n' ≤ 1073741824 := by decide) :
    Meets Try.prog 25 [v, w] [(v, V A), (w, V B)] (fun r os fs => os = [] ∧ fs = [(r, vd (pmul l m))]) := by
  have := pMul_meets v w A B k j h.fit h'.fit hk (by have := h.len; omega) (by have := h'.len; omega)
  rw [h.val, h'.val] at this; exact this
theorem xShift (v w : Value) {a : Int} (h : Lk A l k n) (ha : sz a j) (hk : k + n * n * (j + 1) + j + 1 ≤ 137438953472 := by decide) (hn : n ≤ 536870912 := by decide) :
    Meets Try.prog 26 [v, w] [(v, V A), (w, zd a)] (fun r os fs => os = [] ∧ fs = [(r, vd (pshi a l))]) := by
  have hl := h.len
  have := pShift_meets v w A a k j h.fit ha (by have : A.length * A.length * (j + 1) ≤ n * n * (j + 1) := Nat.mul_le_mul_right _ (Nat.mul_le_mul hl hl); omega) (by omega)
  rw [h.val] at this; exact this
theorem xDerive (v : Value) (h : Lk A l k n) (hk : k + 1 ≤ 137438953472 := by decide) (hn : n ≤ 536870912 := by decide) :
    Meets Try.prog 23 [v] [(v, V A)] (fun r os fs => os = [] ∧ fs = [(r, vd (pder l))]) := by
  have := pDerive_meets v A k h.fit hk (by have := h.len; omega)
  rw [h.val] at this; exact this
theorem xDivide (v w : Value) (h : Lk A l k n) (h' : Lk B m j n') (hk : k + (n + 1) * (j + 1) ≤ 137438953472 := by decide) (hn : n ≤ 536870912 := by decide) (hn' : n' ≤ 536870912 := by decide) :
    Meets Try.prog 17 [v, w] [(v, V A), (w, V B)] (fun r os fs => os = [] ∧ ∃ a t e, r = .tuple #[a, .int .i64 e] ∧ DivSpec l m t e ∧ szR (k + (n + 1) * (j + 1)) t ∧ fs = [(a, vd t)]) := by
  have hl := h.len
  have hm : (A.length + 1) * (j + 1) ≤ (n + 1) * (j + 1) := Nat.mul_le_mul_right _ (by omega)
  have := pDivide_meets v w A B k j h.fit h'.fit (by omega) (by omega) (by have := h'.len; omega)
  rw [h.val, h'.val] at this
  exact this.mono fun r os fs ⟨h1, a, t, e, h2, h3, h4, h5⟩ => ⟨h1, a, t, e, h2, h3, h4.mono (by omega), h5⟩
theorem xRest (v w : Value) (h : Lk A l k n) (h' : Lk B m k n') (h1 : 1 ≤ k := by decide) (hk : re k (n + 1) ≤ 137438953472 := by decide) (hn : n ≤ 536870912 := by decide) (hn' : n' ≤ 536870912 := by decide) :
    Meets Try.prog 20 [v, w] [(v, V A), (w, V B)] (fun r os fs => os = [] ∧ ∃ a b T R, (if dg m = 0 then r = .tuple #[a, b, .int .i64 2] ∧ T = [] ∧ R = [] else r = .tuple #[a, b, .int .i64 0] ∧ RestSpec l m T R ∧ szR (re k (n + 1)) T ∧ szR (re k (n + 1)) R ∧ T.length ≤ n ∧ R.length ≤ n) ∧
      fs = [(a, vd T), (b, vd R)]) := by
  have hl := h.len
  have := pRest_meets v w A B k h.fit h'.fit h1 (Nat.le_trans (re_mono (by omega)) hk) (by omega) (by have := h'.len; omega)
  rw [h.val, h'.val] at this
  refine this.mono fun r os fs ⟨h1, a, b, T, R, h2, h3⟩ => ⟨h1, a, b, T, R, ?_, h3⟩
  have hd : dg l ≤ n := Nat.le_trans (dg_le_len _) h.ll
  by_cases h0 : dg m = 0
  · rw [if_pos h0] at h2 ⊢; exact h2
  · rw [if_neg h0] at h2 ⊢
    obtain ⟨q1, q2, q3, q4, q5, q6⟩ := h2
    exact ⟨q1, q2, q3.mono (re_mono (by omega)), q4.mono (re_mono (by omega)), by omega, by omega⟩
theorem xRestP (v w : Value) (h : Lk A l k n) (h' : Lk B m k n') (h0 : 0 < dg m) (h1 : 1 ≤ k := by decide) (hk : re k (n + 1) ≤ 137438953472 := by decide) (hn : n ≤ 536870912 := by decide) (hn' : n' ≤ 536870912 := by decide) :
    Meets Try.prog 20 [v, w] [(v, V A), (w, V B)] (fun r os fs => os = [] ∧ ∃ a b T R, r = .tuple #[a, b, .int .i64 0] ∧ RestSpec l m T R ∧ szR (re k (n + 1)) T ∧ szR (re k (n + 1)) R ∧ T.length ≤ n ∧ R.length ≤ n ∧ fs = [(a, vd T), (b, vd R)]) :=
  (xRest v w h h' h1 hk hn hn').mono fun r os fs ⟨h1, a, b, T, R, h2, h3⟩ => by
    rw [if_neg (by omega)] at h2
    obtain ⟨q1, q2, q3, q4, q5, q6⟩ := h2
    exact ⟨h1, a, b, T, R, q1, q2, q3, q4, q5, q6, h3⟩
theorem xPrimitive (v : Value) (h : Lk A l k n) (hk : k ≤ 137438953472 := by decide) (hn : n ≤ 1073741824 := by decide) :
    Meets Try.prog 28 [v] [(v, V A)] (fun r os fs => os = [] ∧ fs = [(r, vd (pprim l))]) := by
  have := pPrimitive_meets v A k h.fit hk (by have := h.len; omega)
  rw [h.val] at this; exact this
theorem xGcd (v w : Value) (h : Lk A l k n) (h' : Lk B m k n) (h1 : 1 ≤ k := by decide) (hk : ge k n n * (n + 2) ≤ 137438953472 := by decide) (hn : n ≤ 536870912 := by decide) :
    Meets Try.prog 32 [v, w] [(v, V A), (w, V B)] (fun r os fs => os = [] ∧ ∃ G, Nm G ∧ Gc G l m ∧ fs = [(r, vd G)]) := by
  have := pGcd_meets v w A B k n h.fit h'.fit h1 h.len h'.len hn hk
  rw [h.val, h'.val] at this; exact this
theorem xSimple (v : Value) (h : Lk A l k n) (hk : ge (k + 1) n n * (n + 2) ≤ 137438953472 := by decide) (hd : k + (n + 1) * (dvk (k + 1) n + 1) ≤ 137438953472 := by decide) (hn : n ≤ 268435456 := by decide) :
    Meets Try.prog 29 [v] [(v, V A)] (fun r os fs => os = [] ∧ ∃ s, SimSpec l s ∧ szR (dvk k n) s ∧ fs = [(r, vd s)]) := by
  have := pSimple_meets v A k n h.fit h.len hn hk hd
  rw [h.val] at this; exact this
end
end Go.Proofs.Ytdnjahdppgjmlaa

namespace Go.Proofs.Ytdnjahdppgjmlaa
open Go.RowKit
instance (l : List Int) : Decidable (Nm l) := inferInstanceAs (Decidable (_ = _))
theorem sz_small (x : Int) (h : x.natAbs < 18446744073709551616) : sz x 1 := by
  unfold sz; simpa using h
theorem div_is {p q t u : List Int} {e : Int} (h : DivSpec p q t e) (hq : 0 < dg q) (hu : Nm u) (e' : ∀ x, pev p x = pev q x * pev u x) : t = u ∧ e = 0 := by
  obtain ⟨h1, h2⟩ := h.ok hq ⟨u, e'⟩
  exact ⟨h.tn.ext hu (cancel hq fun x => by rw [← h2, e']), h1⟩
theorem shown_no : ¬ Dv [1, 1] [0, 0, 1] := fun ⟨u, hu⟩ => by
  have := hu (-1)
  simp [pev] at this
theorem shown_gcd {G : List Int} (hn : Nm G) (h : Gc G [-2, 0, 2] [4, 4]) : G = [2, 2] := by
  have e : Gc (ptim (Nat.gcd (cont [-2, 0, 2]) (cont [4, 4]) : Nat) [1, 1]) [-2, 0, 2] [4, 4] := gcd_end (fun _ => by decide) (fun h => by simp [dg, nrm] at h) fun h hh => by
    have e1 : pprim [-2, 0, 2] = [-1, 0, 1] := by decide
    have e2 : pprim [4, 4] = [1, 1] := by decide
    rw [e1, e2]
    exact ⟨fun k => ⟨k.trans ⟨[-1, 1], fun x => by simp only [pev]; grind⟩, k⟩, fun k => k.2⟩
  exact hn.ext (by decide) fun x => by
    rw [h.unique e]
    have : ptim (Nat.gcd (cont [-2, 0, 2]) (cont [4, 4]) : Nat) [1, 1] = [2, 2] := by decide
    rw [this]
theorem shown_sim : SimSpec [0, 0, -3, 3] [0, -1, 1] := by
  have e0 : pprim [0, 0, -3, 3] = [0, 0, -1, 1] := by decide
  have ed : pder [0, 0, -1, 1] = [0, -2, 3] := by decide
  refine ⟨by decide, fun h => by simp [dg, nrm] at h, fun _ => ⟨[0, 1], ?_, fun x => by rw [e0]; simp only [pev]; grind⟩⟩
  rw [e0, ed]
  have e : Gc (ptim (Nat.gcd (cont [0, 0, -1, 1]) (cont [0, -2, 3]) : Nat) [0, 1]) [0, 0, -1, 1] [0, -2, 3] := gcd_end (fun _ => by decide) (fun h => by simp [dg, nrm] at h) fun h hh => by
    have e1 : pprim [0, 0, -1, 1] = [0, 0, -1, 1] := by decide
    have e2 : pprim [0, -2, 3] = [0, -2, 3] := by decide
    rw [e1, e2]
    refine ⟨fun k => ⟨k.trans ⟨[0, -1, 1], fun x => by simp only [pev]; grind⟩, k.trans ⟨[-2, 3], fun x => by simp only [pev]; grind⟩⟩, fun ⟨k1, k2⟩ => ?_⟩
    refine Dv.prim (k := 2) hh (by decide) ?_
    exact (k2.mul_right (c := [-1, 3]) (d := pmul [0, -2, 3] [-1, 3]) fun x => ev_pmul _ _ _).sub (k1.mul_right (c := [9]) (d := pmul [0, 0, -1, 1] [9]) fun x => ev_pmul _ _ _) fun x => by
      rw [ev_map_mul, ev_pmul, ev_pmul]; simp only [pev]; grind
  have : ptim (Nat.gcd (cont [0, 0, -1, 1]) (cont [0, -2, 3]) : Nat) [0, 1] = [0, 1] := by decide
  rw [this] at e
  exact e
theorem shown_rest : RestSpec [0, 0, 1] [1, 2] [-1, 2] [1] := by
  refine ⟨by decide, by decide, by decide, fun x => ?_⟩
  have e1 : ld [1, 2] ^ (dg [0, 0, 1] + 1 - dg [1, 2]) = 4 := by decide
  rw [e1]
  simp only [pev]; grind
theorem lkd (l : List Int) {n : Nat} (h : szR 1 l) (hn : l.length ≤ n) : Lk (l.map cn) l 1 n := Lk.told h hn
theorem small_szR {l : List Int} (h : ∀ x, x ∈ l → x.natAbs < 18446744073709551616) : szR 1 l := fun x hx => by
  have := h x hx
  unfold sz; simpa using this
theorem shownP_meets : Meets Try.prog 14 [] [] (fun r os fs => os = [] ∧ fs = [] ∧ r = .bool true) := by
  have k1 : Lk ([1, 1].map cn) [1, 1] 1 4 := lkd _ (small_szR (by decide)) (by decide)
  have k2 : Lk ([-1, 1].map cn) [-1, 1] 1 4 := lkd _ (small_szR (by decide)) (by decide)
  have k3 : Lk ([0, 0, 1].map cn) [0, 0, 1] 1 4 := lkd _ (small_szR (by decide)) (by decide)
  have k4 : Lk ([-1, 0, 1].map cn) [-1, 0, 1] 1 4 := lkd _ (small_szR (by decide)) (by decide)
  have k5 : Lk ([1, 2].map cn) [1, 2] 1 4 := lkd _ (small_szR (by decide)) (by decide)
  have k6 : Lk ([-2, 0, 2].map cn) [-2, 0, 2] 1 4 := lkd _ (small_szR (by decide)) (by decide)
  have k7 : Lk ([4, 4].map cn) [4, 4] 1 4 := lkd _ (small_szR (by decide)) (by decide)
  have k8 : Lk ([0, 0, -3, 3].map cn) [0, 0, -3, 3] 1 4 := lkd _ (small_szR (by decide)) (by decide)
  refine meets_of_vc Try.func14 (by kernel_rfl) rfl (by kernel_rfl) (Nat.le_of_ble_eq_true rfl) ?_
  refine lit_IL [1, 1] rfl rfl (by decide) fun s1 => ?_
  refine call_fn (poly_meets s1 [1, 1] (by decide) (by decide)) (Seals.refl _ _) (by repeat (first | exact Sub.nil _ | refine Sub.cons (by repeat (first | exact List.Mem.head _ | apply List.Mem.tail)) ?_)) ?_
  rintro y1 _ _ ⟨rfl, rfl⟩
  refine lit_IL [-1, 1] rfl rfl (by decide) fun s2 => ?_
  refine call_fn (poly_meets s2 [-1, 1] (by decide) (by decide)) (Seals.refl _ _) (by repeat (first | exact Sub.nil _ | refine Sub.cons (by repeat (first | exact List.Mem.head _ | apply List.Mem.tail)) ?_)) ?_
  rintro y2 _ _ ⟨rfl, rfl⟩
  refine call_fn (xMul y1 y2 k1 k2) (Seals.refl _ _) (by repeat (first | exact Sub.nil _ | refine Sub.cons (by repeat (first | exact List.Mem.head _ | apply List.Mem.tail)) ?_)) ?_
  rintro a _ _ ⟨rfl, rfl⟩
  refine lit_IL [0, 0, 1] rfl rfl (by decide) fun s3 => ?_
  refine call_fn (poly_meets s3 [0, 0, 1] (by decide) (by decide)) (Seals.refl _ _) (by repeat (first | exact Sub.nil _ | refine Sub.cons (by repeat (first | exact List.Mem.head _ | apply List.Mem.tail)) ?_)) ?_
  rintro y3 _ _ ⟨rfl, rfl⟩
  refine call_fn (rOf_meets 2 (by decide) (by decide)) (Seals.refl _ _) (by repeat (first | exact Sub.nil _ | refine Sub.cons (by repeat (first | exact List.Mem.head _ | apply List.Mem.tail)) ?_)) ?_
  rintro y4 _ _ ⟨rfl, rfl⟩
  refine call_fn (xShift y3 y4 (j := 1) k3 (sz_small 2 (by decide))) (Seals.refl _ _) (by repeat (first | exact Sub.nil _ | refine Sub.cons (by repeat (first | exact List.Mem.head _ | apply List.Mem.tail)) ?_)) ?_
  rintro b _ _ ⟨rfl, rfl⟩
  refine lit_IL [-1, 0, 1] rfl rfl (by decide) fun s5 => ?_
  refine call_fn (poly_meets s5 [-1, 0, 1] (by decide) (by decide)) (Seals.refl _ _) (by repeat (first | exact Sub.nil _ | refine Sub.cons (by repeat (first | exact List.Mem.head _ | apply List.Mem.tail)) ?_)) ?_
  rintro y5 _ _ ⟨rfl, rfl⟩
  refine lit_IL [1, 1] rfl rfl (by decide) fun s6 => ?_
  refine call_fn (poly_meets s6 [1, 1] (by decide) (by decide)) (Seals.refl _ _) (by repeat (first | exact Sub.nil _ | refine Sub.cons (by repeat (first | exact List.Mem.head _ | apply List.Mem.tail)) ?_)) ?_
  rintro y6 _ _ ⟨rfl, rfl⟩
  refine call_fn (xDivide y5 y6 k4 k1) (Seals.refl _ _) (by repeat (first | exact Sub.nil _ | refine Sub.cons (by repeat (first | exact List.Mem.head _ | apply List.Mem.tail)) ?_)) ?_
  rintro _ _ _ ⟨rfl, c, t, e, rfl, hs, _, rfl⟩
  obtain ⟨rfl, rfl⟩ := div_is hs (by decide) (u := [-1, 1]) (by decide) fun x => by simp only [pev]; grind
  refine lit_IL [0, 0, 1] rfl rfl (by decide) fun s7 => ?_
  refine call_fn (poly_meets s7 [0, 0, 1] (by decide) (by decide)) (Seals.refl _ _) (by repeat (first | exact Sub.nil _ | refine Sub.cons (by repeat (first | exact List.Mem.head _ | apply List.Mem.tail)) ?_)) ?_
  rintro y7 _ _ ⟨rfl, rfl⟩
  refine lit_IL [1, 1] rfl rfl (by decide) fun s8 => ?_
  refine call_fn (poly_meets s8 [1, 1] (by decide) (by decide)) (Seals.refl _ _) (by repeat (first | exact Sub.nil _ | refine Sub.cons (by repeat (first | exact List.Mem.head _ | apply List.Mem.tail)) ?_)) ?_
  rintro y8 _ _ ⟨rfl, rfl⟩
  refine call_fn (xDivide y7 y8 k3 k1) (Seals.refl _ _) (by repeat (first | exact Sub.nil _ | refine Sub.cons (by repeat (first | exact List.Mem.head _ | apply List.Mem.tail)) ?_)) ?_
  rintro _ _ _ ⟨rfl, c', t', e', rfl, hs', _, rfl⟩
  obtain ⟨rfl, rfl⟩ := hs'.no (by decide) shown_no
  refine lit_IL [0, 0, 1] rfl rfl (by decide) fun s9 => ?_
  refine call_fn (poly_meets s9 [0, 0, 1] (by decide) (by decide)) (Seals.refl _ _) (by repeat (first | exact Sub.nil _ | refine Sub.cons (by repeat (first | exact List.Mem.head _ | apply List.Mem.tail)) ?_)) ?_
  rintro y9 _ _ ⟨rfl, rfl⟩
  refine lit_IL [1, 2] rfl rfl (by decide) fun s10 => ?_
  refine call_fn (poly_meets s10 [1, 2] (by decide) (by decide)) (Seals.refl _ _) (by repeat (first | exact Sub.nil _ | refine Sub.cons (by repeat (first | exact List.Mem.head _ | apply List.Mem.tail)) ?_)) ?_
  rintro y10 _ _ ⟨rfl, rfl⟩
  refine call_fn (xRestP y9 y10 k3 k5 (by decide)) (Seals.refl _ _) (by repeat (first | exact Sub.nil _ | refine Sub.cons (by repeat (first | exact List.Mem.head _ | apply List.Mem.tail)) ?_)) ?_
  rintro _ _ _ ⟨rfl, x1, x2, T, R, rfl, hsp, _, _, _, _, rfl⟩
  obtain ⟨rfl, rfl⟩ := hsp.unique shown_rest
  refine lit_IL [-2, 0, 2] rfl rfl (by decide) fun s11 => ?_
  refine call_fn (poly_meets s11 [-2, 0, 2] (by decide) (by decide)) (Seals.refl _ _) (by repeat (first | exact Sub.nil _ | refine Sub.cons (by repeat (first | exact List.Mem.head _ | apply List.Mem.tail)) ?_)) ?_
  rintro y11 _ _ ⟨rfl, rfl⟩
  refine lit_IL [4, 4] rfl rfl (by decide) fun s12 => ?_
  refine call_fn (poly_meets s12 [4, 4] (by decide) (by decide)) (Seals.refl _ _) (by repeat (first | exact Sub.nil _ | refine Sub.cons (by repeat (first | exact List.Mem.head _ | apply List.Mem.tail)) ?_)) ?_
  rintro y12 _ _ ⟨rfl, rfl⟩
  refine call_fn (xGcd y11 y12 k6 k7) (Seals.refl _ _) (by repeat (first | exact Sub.nil _ | refine Sub.cons (by repeat (first | exact List.Mem.head _ | apply List.Mem.tail)) ?_)) ?_
  rintro d _ _ ⟨rfl, G, nG, gG, rfl⟩
  obtain rfl := shown_gcd nG gG
  refine lit_IL [0, 0, -3, 3] rfl rfl (by decide) fun s13 => ?_
  refine call_fn (poly_meets s13 [0, 0, -3, 3] (by decide) (by decide)) (Seals.refl _ _) (by repeat (first | exact Sub.nil _ | refine Sub.cons (by repeat (first | exact List.Mem.head _ | apply List.Mem.tail)) ?_)) ?_
  rintro y13 _ _ ⟨rfl, rfl⟩
  refine call_fn (xSimple y13 k8) (Seals.refl _ _) (by repeat (first | exact Sub.nil _ | refine Sub.cons (by repeat (first | exact List.Mem.head _ | apply List.Mem.tail)) ?_)) ?_
  rintro s _ _ ⟨rfl, S, hS, _, rfl⟩
  obtain rfl := hS.unique shown_sim
  refine lit_IL [-1, 0, 1] rfl rfl (by decide) fun s14 => ?_
  refine call_fn (poly_meets s14 [-1, 0, 1] (by decide) (by decide)) (Seals.refl _ _) (by repeat (first | exact Sub.nil _ | refine Sub.cons (by repeat (first | exact List.Mem.head _ | apply List.Mem.tail)) ?_)) ?_
  rintro y14 _ _ ⟨rfl, rfl⟩
  refine call_fn (sameT a y14 _ _ (show pmul [1, 1] [-1, 1] = [-1, 0, 1] by decide)) (Seals.refl _ _) (by repeat (first | exact Sub.nil _ | refine Sub.cons (by repeat (first | exact List.Mem.head _ | apply List.Mem.tail)) ?_)) ?_
  rintro _ _ _ ⟨rfl, rfl, rfl⟩
  refine lit_IL [4, 4, 1] rfl rfl (by decide) fun s15 => ?_
  refine call_fn (poly_meets s15 [4, 4, 1] (by decide) (by decide)) (Seals.refl _ _) (by repeat (first | exact Sub.nil _ | refine Sub.cons (by repeat (first | exact List.Mem.head _ | apply List.Mem.tail)) ?_)) ?_
  rintro y15 _ _ ⟨rfl, rfl⟩
  refine call_fn (sameT b y15 _ _ (show pshi 2 [0, 0, 1] = [4, 4, 1] by decide)) (Seals.refl _ _) (by repeat (first | exact Sub.nil _ | refine Sub.cons (by repeat (first | exact List.Mem.head _ | apply List.Mem.tail)) ?_)) ?_
  rintro _ _ _ ⟨rfl, rfl, rfl⟩
  refine lit_IL [-1, 1] rfl rfl (by decide) fun s16 => ?_
  refine call_fn (poly_meets s16 [-1, 1] (by decide) (by decide)) (Seals.refl _ _) (by repeat (first | exact Sub.nil _ | refine Sub.cons (by repeat (first | exact List.Mem.head _ | apply List.Mem.tail)) ?_)) ?_
  rintro y16 _ _ ⟨rfl, rfl⟩
  refine call_fn (sameT c y16 _ _ (rfl)) (Seals.refl _ _) (by repeat (first | exact Sub.nil _ | refine Sub.cons (by repeat (first | exact List.Mem.head _ | apply List.Mem.tail)) ?_)) ?_
  rintro _ _ _ ⟨rfl, rfl, rfl⟩
  refine cmp_true rfl (by decide) ?_
  refine cmp_true rfl (by decide) ?_
  refine lit_IL [-1, 2] rfl rfl (by decide) fun s17 => ?_
  refine call_fn (poly_meets s17 [-1, 2] (by decide) (by decide)) (Seals.refl _ _) (by repeat (first | exact Sub.nil _ | refine Sub.cons (by repeat (first | exact List.Mem.head _ | apply List.Mem.tail)) ?_)) ?_
  rintro y17 _ _ ⟨rfl, rfl⟩
  refine call_fn (sameT x1 y17 _ _ (rfl)) (Seals.refl _ _) (by repeat (first | exact Sub.nil _ | refine Sub.cons (by repeat (first | exact List.Mem.head _ | apply List.Mem.tail)) ?_)) ?_
  rintro _ _ _ ⟨rfl, rfl, rfl⟩
  refine lit_IL [1] rfl rfl (by decide) fun s18 => ?_
  refine call_fn (poly_meets s18 [1] (by decide) (by decide)) (Seals.refl _ _) (by repeat (first | exact Sub.nil _ | refine Sub.cons (by repeat (first | exact List.Mem.head _ | apply List.Mem.tail)) ?_)) ?_
  rintro y18 _ _ ⟨rfl, rfl⟩
  refine call_fn (sameT x2 y18 _ _ (rfl)) (Seals.refl _ _) (by repeat (first | exact Sub.nil _ | refine Sub.cons (by repeat (first | exact List.Mem.head _ | apply List.Mem.tail)) ?_)) ?_
  rintro _ _ _ ⟨rfl, rfl, rfl⟩
  refine cmp_true rfl (by decide) ?_
  refine lit_IL [2, 2] rfl rfl (by decide) fun s19 => ?_
  refine call_fn (poly_meets s19 [2, 2] (by decide) (by decide)) (Seals.refl _ _) (by repeat (first | exact Sub.nil _ | refine Sub.cons (by repeat (first | exact List.Mem.head _ | apply List.Mem.tail)) ?_)) ?_
  rintro y19 _ _ ⟨rfl, rfl⟩
  refine call_fn (sameT d y19 _ _ (rfl)) (Seals.refl _ _) (by repeat (first | exact Sub.nil _ | refine Sub.cons (by repeat (first | exact List.Mem.head _ | apply List.Mem.tail)) ?_)) ?_
  rintro _ _ _ ⟨rfl, rfl, rfl⟩
  refine lit_IL [0, -1, 1] rfl rfl (by decide) fun s20 => ?_
  refine call_fn (poly_meets s20 [0, -1, 1] (by decide) (by decide)) (Seals.refl _ _) (by repeat (first | exact Sub.nil _ | refine Sub.cons (by repeat (first | exact List.Mem.head _ | apply List.Mem.tail)) ?_)) ?_
  rintro y20 _ _ ⟨rfl, rfl⟩
  refine call_fn (sameT s y20 _ _ (rfl)) (Seals.refl _ _) (by repeat (first | exact Sub.nil _ | refine Sub.cons (by repeat (first | exact List.Mem.head _ | apply List.Mem.tail)) ?_)) ?_
  rintro _ _ _ ⟨rfl, rfl, rfl⟩
  exact fin ⟨rfl, rfl, rfl⟩ (Seals.nil _ _)
end Go.Proofs.Ytdnjahdppgjmlaa

namespace Go.Proofs.Ytdnjahdppgjmlaa
open Go.RowKit
end Go.Proofs.Ytdnjahdppgjmlaa

namespace Go.Proofs.Ytdnjahdppgjmlaa
open Go.RowKit
end Go.Proofs.Ytdnjahdppgjmlaa

namespace Go.Proofs.Ytdnjahdppgjmlaa
open Go.RowKit
end Go.Proofs.Ytdnjahdppgjmlaa

namespace Go.Proofs.Ytdnjahdppgjmlaa
open Go.RowKit
theorem up_dg {g : List Int} (h : 0 < dg g) : dg (pmul [0, 1] g) = dg g + 1 := by
  have := (pmul_dg (a := [0, 1]) (b := g) (by decide) h).1
  have h2 : dg [0, 1] = 2 := rfl
  omega
/-- Of two that are 0, 0 is in common. -/
theorem gc_nz {g p q : List Int} (h : Gc g p q) (h0 : 0 < dg g) : 0 < dg p ∨ 0 < dg q := by
  refine Classical.byContradiction fun hn => ?_
  have z1 : dg p = 0 := by omega
  have z2 : dg q = 0 := by omega
  have h1 := (h.2.2.1 (pmul [0, 1] g) (Dv.zero _ (dg_zero.1 z1)) (Dv.zero _ (dg_zero.1 z2))).deg h0
  have := up_dg h0
  omega
theorem gc_size {g p q : List Int} {k n : Nat} (h : Gc g p q) (h0 : 0 < dg g) (hn : Nm g) (hp : szR k p) (hq : szR k q) (lp : p.length ≤ n) (lq : q.length ≤ n) (h32 : n ≤ 4294967296) : szR (dvk k n) g ∧ g.length ≤ n := by
  rcases gc_nz h h0 with h1 | h1
  · have hd : dg p ≤ n := Nat.le_trans (dg_le_len _) lp
    exact ⟨dv_szR h.1 h1 hp hn hd h32, by rw [← dg_nm hn]; have := (h.1.deg h1).2; omega⟩
  · have hd : dg q ≤ n := Nat.le_trans (dg_le_len _) lq
    exact ⟨dv_szR h.2.1 h1 hq hn hd h32, by rw [← dg_nm hn]; have := (h.2.1.deg h1).2; omega⟩
theorem ffY (v : Value) (p : Row) (n k : Nat) (h : smallR n k p) :
    Meets Try.prog 27 [v, .int .i64 (n : Int), .int .i64 (k : Int)] [(v, V p)] (fun r os fs => os = [] ∧ fs = [] ∧ r = .bool true) := by
  have := rFits_meets v p n k
  rw [decide_eq_true (show p.length ≤ n ∧ ∀ x, x ∈ p → x.2.length ≤ k from h)] at this
  exact this
theorem ffN (v : Value) (p : Row) (n k : Nat) (h : ¬ smallR n k p) :
    Meets Try.prog 27 [v, .int .i64 (n : Int), .int .i64 (k : Int)] [(v, V p)] (fun r os fs => os = [] ∧ fs = [] ∧ r = .bool false) := by
  have := rFits_meets v p n k
  rw [decide_eq_false (show ¬ (p.length ≤ n ∧ ∀ x, x ∈ p → x.2.length ≤ k) from h)] at this
  exact this
theorem pmul_len1 (l m : List Int) : (pmul l m).length ≤ l.length + m.length - 1 := by
  by_cases h1 : 0 < dg l
  · by_cases h2 : 0 < dg m
    · have := (pmul_dg h1 h2).1
      rw [dg_nm (pmul_nm l m)] at this
      have a1 := dg_le_len l
      have a2 := dg_le_len m
      omega
    · have : pmul l m = [] := (pmul_nm l m).ext Nm.nil fun x => by rw [ev_pmul, dg_zero.1 (show dg m = 0 by omega)]; simp [pev]
      rw [this]; exact Nat.zero_le _
  · have : pmul l m = [] := (pmul_nm l m).ext Nm.nil fun x => by rw [ev_pmul, dg_zero.1 (show dg l = 0 by omega)]; simp [pev]
    rw [this]; exact Nat.zero_le _
theorem Lk.shorter {l : List Int} {k n n' : Nat} (h : Lk (l.map cn) l k n) (hn : l.length ≤ n') : Lk (l.map cn) l k n' := Lk.told h.sz hn
/-- What the simple part of w is good for. -/
structure SimLaw (w s : List Int) : Prop where
  pos : 0 < dg s
  dv : Dv s w
  pow : Dv w (ppow s w.length)
  free : ∀ g, Gc g s (pder s) → dg g = 1
  len : s.length ≤ w.length
theorem simLaw {w s : List Int} (hw : 0 < dg w) (hc : cont w = 1) (hn : Nm w) (hl : 0 < ld w) (h : SimSpec w s) : SimLaw w s := by
  obtain ⟨g, hg, he⟩ := h.ok hw
  have e1 : pprim w = w := (pprim_nm w).ext hn fun x => by
    have h1 := pprim_ev w x
    have h2 : scont w = 1 := by unfold scont; rw [if_neg (by omega), hc]; rfl
    rw [h2] at h1; omega
  rw [e1] at hg he
  have hd : Dv s w := ⟨g, fun x => by rw [he, Int.mul_comm]⟩
  have h0 := hd.deg hw
  refine ⟨h0.1, hd, simple_power hw hg he w.length w (by have := dg_le_len w; omega) hc (Dv.refl w), fun d hdd => simple_free hw hc hg he hdd, ?_⟩
  rw [← dg_nm h.sn, ← dg_nm hn]; exact h0.2
theorem simple_walk (u v : Value) (p q : Row) (l m : List Int) (sp : smallR 4 1 p) (sq : smallR 4 1 q) (P : Lk p l 1 4) (Q : Lk q m 1 4) :
    Meets Try.prog 5 [u, v] [(u, V p), (v, V q)] (fun r os fs => os = [] ∧ fs = [] ∧ r = .bool true) := by
  have one : Lk ([1].map cn) [1] 1 1 := Lk.told (szR_one 1 (by decide)) (by decide)
  have PP := P.mul P (by decide)
  have PP : Lk ((pmul l l).map cn) (pmul l l) 3 7 := PP.shorter (Nat.le_trans (pmul_len1 l l) (by have := P.ll; omega))
  have W0 := PP.mul Q (by decide)
  have W0 : Lk ((pmul (pmul l l) m).map cn) (pmul (pmul l l) m) 5 10 := W0.shorter (Nat.le_trans (pmul_len1 _ m) (by have := PP.ll; have := Q.ll; omega))
  have W := W0.pri
  have hnm := pprim_nm (pmul (pmul l l) m)
  have hct : 0 < dg (pprim (pmul (pmul l l) m)) → cont (pprim (pmul (pmul l l) m)) = 1 ∧ 0 < ld (pprim (pmul (pmul l l) m)) := fun h => by
    rw [pprim_dg] at h
    exact ⟨pprim_cont h, pprim_ld h⟩
  have c1 := fun t => xPrimitive t W0
  generalize pprim (pmul (pmul l l) m) = w at *
  have hwl := dg_nm hnm
  refine meets_of_vc Try.func5 (by kernel_rfl) rfl (by kernel_rfl) (Nat.le_of_ble_eq_true rfl) ?_
  refine call_fn shownP_meets (Seals.refl _ _) (by repeat (first | exact Sub.nil _ | refine Sub.cons (by repeat (first | exact List.Mem.head _ | apply List.Mem.tail)) ?_)) ?_
  rintro _ _ _ ⟨rfl, rfl, rfl⟩
  refine call_fn (ffY u p 4 1 sp) (Seals.refl _ _) (by repeat (first | exact Sub.nil _ | refine Sub.cons (by repeat (first | exact List.Mem.head _ | apply List.Mem.tail)) ?_)) ?_
  rintro _ _ _ ⟨rfl, rfl, rfl⟩
  refine call_fn (ffY v q 4 1 sq) (Seals.refl _ _) (by repeat (first | exact Sub.nil _ | refine Sub.cons (by repeat (first | exact List.Mem.head _ | apply List.Mem.tail)) ?_)) ?_
  rintro _ _ _ ⟨rfl, rfl, rfl⟩
  refine call_fn (xMul u u P P) (Seals.refl _ _) (by repeat (first | exact Sub.nil _ | refine Sub.cons (by repeat (first | exact List.Mem.head _ | apply List.Mem.tail)) ?_)) ?_
  rintro x1 _ _ ⟨rfl, rfl⟩
  refine call_fn (xMul x1 v PP Q) (Seals.refl _ _) (by repeat (first | exact Sub.nil _ | refine Sub.cons (by repeat (first | exact List.Mem.head _ | apply List.Mem.tail)) ?_)) ?_
  rintro x2 _ _ ⟨rfl, rfl⟩
  refine call_fn (c1 x2) (Seals.refl _ _) (by repeat (first | exact Sub.nil _ | refine Sub.cons (by repeat (first | exact List.Mem.head _ | apply List.Mem.tail)) ?_)) ?_
  rintro x3 _ _ ⟨rfl, rfl⟩
  refine call_fn (xSimple x3 W) (Seals.refl _ _) (by repeat (first | exact Sub.nil _ | refine Sub.cons (by repeat (first | exact List.Mem.head _ | apply List.Mem.tail)) ?_)) ?_
  rintro vs _ _ ⟨rfl, s, hs, ss, rfl⟩
  refine len_vd (by repeat (first | exact List.Mem.head _ | apply List.Mem.tail)) ?_
  by_cases h0 : dg w = 0
  · have e := hs.zero h0
    subst e
    refine cmp_true rfl (by omega) ?_
    refine len_vd (by repeat (first | exact List.Mem.head _ | apply List.Mem.tail)) ?_
    refine cmp_true rfl rfl ?_
    exact fin ⟨rfl, rfl, rfl⟩ (Seals.nil _ _)
  have h0 : 0 < dg w := by omega
  obtain ⟨hc, hl⟩ := hct h0
  have L := simLaw h0 hc hnm hl hs
  have kS : Lk (s.map cn) s 146 10 := Lk.told (ss.mono (by decide)) (Nat.le_trans L.len W.ll)
  have kD := kS.der (by decide)
  have hw10 := W.ll
  refine cmp_false rfl (by omega) ?_
  refine call_fn (xDivide x3 vs W kS) (Seals.refl _ _) (by repeat (first | exact Sub.nil _ | refine Sub.cons (by repeat (first | exact List.Mem.head _ | apply List.Mem.tail)) ?_)) ?_
  rintro _ _ _ ⟨rfl, a, t, e, rfl, hs1, _, rfl⟩
  obtain ⟨rfl, _⟩ := hs1.ok L.pos L.dv
  refine lit_IL [1] rfl rfl (by decide) fun s1 => ?_
  refine call_fn (poly_meets s1 [1] (by decide) (by decide)) (Seals.refl _ _) (by repeat (first | exact Sub.nil _ | refine Sub.cons (by repeat (first | exact List.Mem.head _ | apply List.Mem.tail)) ?_)) ?_
  rintro y1 _ _ ⟨rfl, rfl⟩
  refine loop_rule (X := Nat × List Int × Value) (fun x => ([(0, u), (1, v), (5, .bool true), (6, x3), (7, vs), (8, a), (9, .int .i64 0), (10, x.2.2), (11, .int .i64 (x.1 : Nat))], [], [(x3, vd w), (vs, vd s), (x.2.2, vd x.2.1)]))
    (fun x => x.1 ≤ w.length ∧ szR (1 + x.1 * 147) x.2.1 ∧ x.2.1.length ≤ 1 + x.1 * 10 ∧ ∀ y, pev x.2.1 y = pev (ppow s x.1) y) (fun x => w.length - x.1) rfl ?_ ?_
  · exact again (0, [1], y1) ⟨Nat.zero_le _, one.sz, by simp, fun y => rfl⟩ trivial (by repeat (first | exact trivial | refine ⟨rfl, ?_⟩ | refine ⟨i64_eq (by first | omega | (simp only; omega)), ?_⟩ | refine ⟨u64_eq (by first | omega | (simp only; omega)), ?_⟩)) (Seals.sub (by repeat (first | exact Sub.nil _ | refine Sub.cons (by repeat (first | exact List.Mem.head _ | apply List.Mem.tail)) ?_)))
  · rintro ⟨i, A, va⟩ ⟨g1, g2, g3, g4⟩
    simp only at g1 g2 g3 g4 ⊢
    have kA : Lk (A.map cn) A (1 + i * 147) (1 + i * 10) := Lk.told g2 g3
    refine len_vd (by repeat (first | exact List.Mem.head _ | apply List.Mem.tail)) ?_
    refine cmp_split _ rfl (fun hlt => ?_) (fun hlt => ?_)
    · have kN := kA.mul kS (by omega)
      have hm := xMul va vs kA kS (by omega) (by omega) (by decide)
      refine call_fn hm (Seals.refl _ _) (by repeat (first | exact Sub.nil _ | refine Sub.cons (by repeat (first | exact List.Mem.head _ | apply List.Mem.tail)) ?_)) ?_
      rintro y2 _ _ ⟨rfl, rfl⟩
      refine ar rfl (by first | exact ⟨by omega, by omega⟩ | (simp only [inK]; omega)) ?_
      refine again (i + 1, pmul A s, y2) ⟨by simp only; omega, kN.sz.mono (by omega), Nat.le_trans kN.ll (by simp only; omega), fun y => by simp only [ppow]; rw [ev_pmul, ev_pmul, g4]⟩ (by simp only; omega) (by repeat (first | exact trivial | refine ⟨rfl, ?_⟩ | refine ⟨i64_eq (by first | omega | (simp only; omega)), ?_⟩ | refine ⟨u64_eq (by first | omega | (simp only; omega)), ?_⟩)) (Seals.sub (by repeat (first | exact Sub.nil _ | refine Sub.cons (by repeat (first | exact List.Mem.head _ | apply List.Mem.tail)) ?_)))
    · have hi : i = w.length := by omega
      have hdv : Dv w A := L.pow.ext (fun _ => rfl) fun x => by rw [g4, hi]
      have kA' : Lk (A.map cn) A 1471 101 := kA.mono (by omega) (by omega)
      refine call_fn (xDivide va x3 kA' W) (Seals.refl _ _) (by repeat (first | exact Sub.nil _ | refine Sub.cons (by repeat (first | exact List.Mem.head _ | apply List.Mem.tail)) ?_)) ?_
      rintro _ _ _ ⟨rfl, a2, t2, e2, rfl, hs2, _, rfl⟩
      obtain ⟨rfl, _⟩ := hs2.ok h0 hdv
      refine cmp_true rfl rfl ?_
      refine cmp_true rfl rfl ?_
      refine call_fn (xDerive vs kS) (Seals.refl _ _) (by repeat (first | exact Sub.nil _ | refine Sub.cons (by repeat (first | exact List.Mem.head _ | apply List.Mem.tail)) ?_)) ?_
      rintro y3 _ _ ⟨rfl, rfl⟩
      refine call_fn (xGcd vs y3 (kS.mono (by decide) (Nat.le_refl _)) kD) (Seals.refl _ _) (by repeat (first | exact Sub.nil _ | refine Sub.cons (by repeat (first | exact List.Mem.head _ | apply List.Mem.tail)) ?_)) ?_
      rintro y4 _ _ ⟨rfl, G, nG, gG, rfl⟩
      have hG := L.free G gG
      obtain ⟨sG, lG⟩ := gc_size gG (by omega) nG (kS.sz.mono (show 146 ≤ 147 by decide)) kD.sz kS.ll kD.ll (by decide)
      have kG : Lk (G.map cn) G 3128 10 := Lk.told (sG.mono (by decide)) lG
      refine call_fn (xDegree y4 kG) (Seals.refl _ _) (by repeat (first | exact Sub.nil _ | refine Sub.cons (by repeat (first | exact List.Mem.head _ | apply List.Mem.tail)) ?_)) ?_
      rintro _ _ _ ⟨rfl, rfl, rfl⟩
      rw [hG]
      refine cmp_true rfl rfl ?_
      exact fin ⟨rfl, rfl, rfl⟩ (Seals.nil _ _)
theorem simple_meets (u v : Value) (p q : Row) (hp : limR p) (hq : limR q) :
    Meets Try.prog 5 [u, v] [(u, V p), (v, V q)] (fun r os fs => os = [] ∧ fs = [] ∧ r = .bool true) := by
  by_cases sp : smallR 4 1 p
  case neg =>
    refine meets_of_vc Try.func5 (by kernel_rfl) rfl (by kernel_rfl) (Nat.le_of_ble_eq_true rfl) ?_
    refine call_fn shownP_meets (Seals.refl _ _) (by repeat (first | exact Sub.nil _ | refine Sub.cons (by repeat (first | exact List.Mem.head _ | apply List.Mem.tail)) ?_)) ?_
    rintro _ _ _ ⟨rfl, rfl, rfl⟩
    refine call_fn (ffN u p 4 1 sp) (Seals.refl _ _) (by repeat (first | exact Sub.nil _ | refine Sub.cons (by repeat (first | exact List.Mem.head _ | apply List.Mem.tail)) ?_)) ?_
    rintro _ _ _ ⟨rfl, rfl, rfl⟩
    exact fin ⟨rfl, rfl, rfl⟩ (Seals.nil _ _)
  by_cases sq : smallR 4 1 q
  case neg =>
    refine meets_of_vc Try.func5 (by kernel_rfl) rfl (by kernel_rfl) (Nat.le_of_ble_eq_true rfl) ?_
    refine call_fn shownP_meets (Seals.refl _ _) (by repeat (first | exact Sub.nil _ | refine Sub.cons (by repeat (first | exact List.Mem.head _ | apply List.Mem.tail)) ?_)) ?_
    rintro _ _ _ ⟨rfl, rfl, rfl⟩
    refine call_fn (ffY u p 4 1 sp) (Seals.refl _ _) (by repeat (first | exact Sub.nil _ | refine Sub.cons (by repeat (first | exact List.Mem.head _ | apply List.Mem.tail)) ?_)) ?_
    rintro _ _ _ ⟨rfl, rfl, rfl⟩
    refine call_fn (ffN v q 4 1 sq) (Seals.refl _ _) (by repeat (first | exact Sub.nil _ | refine Sub.cons (by repeat (first | exact List.Mem.head _ | apply List.Mem.tail)) ?_)) ?_
    rintro _ _ _ ⟨rfl, rfl, rfl⟩
    exact fin ⟨rfl, rfl, rfl⟩ (Seals.nil _ _)
  exact simple_walk u v p q _ _ sp sq (Lk.raw sp hp) (Lk.raw sq hq)
end Go.Proofs.Ytdnjahdppgjmlaa

namespace Go.Proofs.Ytdnjahdppgjmlaa
open Go.ChangeShapes Go.WideShapes Go.ChangeAt Go.RowKit
open Go.Joins (open_agg2)
set_option maxRecDepth 100000 in
theorem polyzSimple_lifted (os : Os) (started : os.Started) (H : Type) (enc : TypeId × Value → H) :
    ReturnsInHanded {} Try.checked os 5 .any (Rows.polyzSimpleSpec.pre6 enc Try.prog Try.f5 Rows.polyzSimpleRow.domain false) (Rows.polyzSimpleSpec.post enc Try.prog Try.f5 false true false false) := by
  refine returnsInHanded_of_change (C := Try.checked) own0 started (by kernel_rfl) Try.func5
    (ChangeSpec.witness6 (enc := enc) (C := Try.checked) false ⟨#[], #[.slice none 0 0, .slice none 0 0], []⟩ 8 (by kernel_rfl) (by kernel_rfl) (by kernel_rfl) (by kernel_rfl)) ?_
  intro Wd base args ds gs before hval0 hW hcnd _
  have hval : ∀ (j : Nat) t v, Try.f5.params[j]? = some t → args[j]? = some v → Value.okWide Try.prog Wd .any base t v := hval0
  have hW' := hW
  obtain ⟨p, q, hA0, hV, rfl, hfz, hnd⟩ := hW
  have hA : DataW.TrodAll enc Try.prog Wd 0 (fun _ => true) true Try.f5.params.toList args.toList ds p := hA0
  rw [Try.params5] at hA hval
  obtain ⟨v0, vs0, d0, ds0, p0, q0, hargs, rfl, rfl, h0, r0⟩ := trodAll_cons hA
  obtain ⟨v1, vs1, d1, ds1, p1, q1, rfl, rfl, rfl, h1, r1⟩ := trodAll_cons r0
  obtain ⟨rfl, rfl, rfl⟩ := trodAll_nil r1
  obtain rfl : args = #[v0, v1] := by cases args; simp_all
  obtain ⟨rfl, rfl⟩ := trodVars_none hV
  obtain ⟨a0, n0, c0, rfl⟩ := okWide_slice Try.underlying23 (hval 0 23 v0 rfl rfl)
  have k0 := h0
  have lt0 : ∀ x ∈ p0, x.block < Wd.heap.size := by obtain ⟨m, hm⟩ := k0; exact DataW.trod_lt m _ _ _ hm
  obtain ⟨m0, lm0, rd0⟩ : ∃ m, limR m ∧ Rd (fun b => b < Wd.heap.size) Wd (.slice a0 n0 c0) (V m) := by
    obtain ⟨fuel, hf⟩ := h0
    obtain ⟨m, e1, e2⟩ := rd_poly hf
    exact ⟨m, e1, rd_val rfl e2⟩
  obtain ⟨a1, n1, c1, rfl⟩ := okWide_slice Try.underlying23 (hval 1 23 v1 rfl rfl)
  have k1 := h1
  have lt1 : ∀ x ∈ p1, x.block < Wd.heap.size := by obtain ⟨m, hm⟩ := k1; exact DataW.trod_lt m _ _ _ hm
  obtain ⟨m1, lm1, rd1⟩ : ∃ m, limR m ∧ Rd (fun b => b < Wd.heap.size) Wd (.slice a1 n1 c1) (V m) := by
    obtain ⟨fuel, hf⟩ := h1
    obtain ⟨m, e1, e2⟩ := rd_poly hf
    exact ⟨m, e1, rd_val rfl e2⟩
  clear hA0 hval0
  refine (calls_of_meets (w := Wd) (simple_meets (.slice a0 n0 c0) (.slice a1 n1 c1) m0 m1 lm0 lm1) ?_).mono fun e W2 ⟨he, bel⟩ => ?_
  · intro F hF
    simp only [List.mem_cons, List.not_mem_nil, or_false] at hF
    rcases hF with rfl | rfl
    · exact rd0
    · exact rd1
  subst he
  exact ⟨_, rfl, _, _, _, [], _, [], hW', trodAll_mk1 (shut_bool Try.underlying4 _), (trodAll_cons_mk (Below.trod laid0 (by kernel_rfl) (of_decide_eq_true (by kernel_rfl)) k0 bel lt0) (trodAll_cons_mk (Below.trod laid0 (by kernel_rfl) (of_decide_eq_true (by kernel_rfl)) k1 bel lt1) trodAll_mk0)), rfl, bel.frame _, fun h => by cases h⟩
theorem polyzSimple_holds : Rows.PolyzSimpleSaid :=
  OpenClaim.holds_of_wide 5 Try.f5 rfl rfl rfl rfl rfl rfl rfl ⟨rfl, rfl, rfl, rfl, rfl⟩ rfl rfl rfl rfl rfl (by kernel_rfl) Try.func5 (by kernel_rfl)
    (of_decide_eq_true (by kernel_rfl)) (by unfold Func.isWrapper; first | (rw [if_pos (by decide +kernel)]; kernel_rfl) | (rw [if_neg (by decide +kernel)]; exact ⟨rfl, rfl⟩))
    (fun os started H enc _ => polyzSimple_lifted os started H enc)
#print axioms polyzSimple_holds
end Go.Proofs.Ytdnjahdppgjmlaa
