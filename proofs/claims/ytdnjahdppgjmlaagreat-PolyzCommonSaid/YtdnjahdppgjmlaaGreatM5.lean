/- The law PolyzCommon is true of each input, and changes none. No condition. -/
import Derived.Test.YtdnjahdppgjmlaaGreatM4
import Derived.Test.YtdnjahdppgjmlaaGreatRows
import Derived.OpenShut
import Derived.Below
import Derived.Lib.SmallJoins
set_option linter.unusedVariables false
set_option linter.unusedSimpArgs false

namespace Go.Proofs.YtdnjahdppgjmlaaGreat
open Go.RowKit
theorem ld_none {l : List Int} (h : dg l = 0) : ld l = 0 := by unfold ld; rw [dg_le.1 (Nat.le_of_eq h) _ (Nat.zero_le _)]
theorem rLead_meets (v : Value) (p : Row) (hp : Fit 1099511627776 p) :
    Meets Tryz.prog 37 [v] [(v, V p)] (fun r os fs => os = [] ∧ fs = [(r, zd (ld (vv p)))]) := by
  have d1 := rDegreeN v p hp
  have hat := rAt_meets v p ((dg (vv p) : Nat) - 1 : Int) hp
  have e : (if ((dg (vv p) : Nat) - 1 : Int) < 0 then 0 else (vv p).getD ((dg (vv p) : Nat) - 1 : Int).toNat 0) = ld (vv p) := by
    by_cases h : dg (vv p) = 0
    · rw [if_pos (by omega), ld_none h]
    · rw [if_neg (by omega), show ((dg (vv p) : Nat) - 1 : Int).toNat = dg (vv p) - 1 by omega]; rfl
  rw [e] at hat
  generalize ld (vv p) = x at *
  refine meets_of_vc Tryz.func37 (by kernel_rfl) rfl (by kernel_rfl) (Nat.le_of_ble_eq_true rfl) ?_
  refine alloc_rule (d := I false []) fun o ho => ?_
  refine call_fn (d1) (Seals.refl _ _) (by repeat (first | exact Sub.nil _ | refine Sub.cons (by repeat (first | exact List.Mem.head _ | apply List.Mem.tail)) ?_)) ?_
  rintro _ _ _ ⟨rfl, rfl, rfl⟩
  refine call_fn (hat) (Seals.refl _ _) (by repeat (first | exact Sub.nil _ | refine Sub.cons (by repeat (first | exact List.Mem.head _ | apply List.Mem.tail)) ?_)) ?_
  rintro y1 _ _ ⟨rfl, rfl⟩
  refine store_box (d := zd x) 0 rfl ho rfl (by kernel_rfl) ?_ ?_; exact Reads.fact (by repeat (first | exact List.Mem.head _ | apply List.Mem.tail))
  refine load_box (d := zd x) 0 rfl ho rfl (load_I _ _) fun r => ?_
  exact fin ⟨rfl, rfl⟩ (Seals.trans (Seals.drop 0 _ _) (Seals.sub (by repeat (first | exact Sub.nil _ | refine Sub.cons (by repeat (first | exact List.Mem.head _ | apply List.Mem.tail)) ?_))))
theorem rLeadT (v : Value) (l : List Int) {k : Nat} (hl : szR k l) (hk : k ≤ 1099511627776) :
    Meets Tryz.prog 37 [v] [(v, vd l)] (fun r os fs => os = [] ∧ fs = [(r, zd (ld l))]) := by
  have := rLead_meets v (l.map cn) (hl.mono hk).fit
  rw [vv_cn] at this; exact this
theorem rDegreeT (v : Value) (l : List Int) {k : Nat} (hl : szR k l) (hk : k ≤ 1099511627776) :
    Meets Tryz.prog 26 [v] [(v, vd l)] (fun r os fs => os = [] ∧ fs = [] ∧ r = .int .i64 ((dg l : Nat) - 1 : Int)) := by
  have := rDegreeN v (l.map cn) (hl.mono hk).fit
  rw [vv_cn] at this; exact this
theorem rTerm_meets (v : Value) (c : Int) (s : Nat) (ls : s ≤ 1048576) :
    Meets Tryz.prog 90 [v, .int .i64 (s : Nat)] [(v, zd c)] (fun r os fs => os = [] ∧ fs = [(r, vd (up s [c]))]) := by
  refine meets_of_vc Tryz.func90 (by kernel_rfl) rfl (by kernel_rfl) (Nat.le_of_ble_eq_true rfl) ?_
  refine box_fact (Reads.fact (d := zd c) (by repeat (first | exact List.Mem.head _ | apply List.Mem.tail))) fun pc => ?_
  refine empty_L (size := 2) (e := 30) J z0 (by decide) fun v0 hv0 => ?_
  refine loop_rule (X := Value × Nat) (fun x => ([(1, .int .i64 (s : Nat)), (2, pc), (5, x.1), (6, .int .i64 (x.2 : Nat))], [ownL 2 J z0 x.1 ((List.replicate x.2 (0 : Int)).map cn)], [(pc, .ptr (zd c))])) (fun x => isSl x.1 ∧ x.2 ≤ s) (fun x => s - x.2) rfl ?_ ?_
  · exact again (v0, 0) ⟨hv0, Nat.zero_le _⟩ trivial (by repeat (first | exact trivial | refine ⟨rfl, ?_⟩ | refine ⟨i64_eq (by first | omega | (simp only; omega)), ?_⟩ | refine ⟨u64_eq (by first | omega | (simp only; omega)), ?_⟩)) (Seals.sub (by repeat (first | exact Sub.nil _ | refine Sub.cons (by repeat (first | exact List.Mem.head _ | apply List.Mem.tail)) ?_)))
  · rintro ⟨vo, i⟩ ⟨hvo, h2⟩
    simp only at hvo h2 ⊢
    have hll : (List.replicate i (0 : Int)).length = i := List.length_replicate
    refine cmp_split _ rfl (fun hlt => ?_) (fun hlt => ?_)
    · refine build0 (da := .one (.bool false)) (db := U (lims 0)) (fun S w => ⟨[.bool false], [.slice none 0 0], rfl, rd_false S w, by rw [lims_zero]; exact rd_nil S w 1 _⟩) fun y2 => ?_
      refine lit_L (size := 2) (f := J) (z := z0) (e := 30) (cn 0) (by decide) (Reads.fact (by repeat (first | exact List.Mem.head _ | apply List.Mem.tail))) rfl fun y4 => ?_
      refine append_L (size := 2) (e := 30) (f := J) (z := z0) (l := (List.replicate i (0 : Int)).map cn) (m := [cn 0]) 0 rfl hvo (Knw.fact (by repeat (first | exact List.Mem.head _ | apply List.Mem.tail))) (by simp only [List.length_map, hll, List.length_cons, List.length_nil]; omega) (by simp only [List.length_map, hll, List.length_cons, List.length_nil]; omega) fun vn hvn => ?_
      refine ar rfl (by first | exact ⟨by omega, by omega⟩ | (simp only [inK]; omega)) ?_
      refine again (vn, i + 1) ⟨hvn, by simp only; omega⟩ (by simp only; omega) (by repeat (first | exact trivial | refine ⟨rfl, ?_⟩ | refine ⟨i64_eq (by first | omega | (simp only; omega)), ?_⟩ | refine ⟨u64_eq (by first | omega | (simp only; omega)), ?_⟩)) ?_
      rw [show (List.replicate i (0 : Int)).map cn ++ [cn 0] = (List.replicate (i + 1) (0 : Int)).map cn by rw [List.replicate_succ', List.map_append]; rfl]
      exact Seals.sub (by repeat (first | exact Sub.nil _ | refine Sub.cons (by repeat (first | exact List.Mem.head _ | apply List.Mem.tail)) ?_))
    · have hii : i = s := by omega
      subst hii
      refine load_fact (d := zd c) (by repeat (first | exact List.Mem.head _ | apply List.Mem.tail)) (load_I _ _) fun y1 => ?_
      refine lit_L (size := 2) (f := J) (z := z0) (e := 30) (cn c) (by decide) (Reads.fact (by repeat (first | exact List.Mem.head _ | apply List.Mem.tail))) rfl fun y4 => ?_
      refine append_L (size := 2) (e := 30) (f := J) (z := z0) (l := (List.replicate i (0 : Int)).map cn) (m := [cn c]) 0 rfl hvo (Knw.fact (by repeat (first | exact List.Mem.head _ | apply List.Mem.tail))) (by simp only [List.length_map, hll, List.length_cons, List.length_nil]; omega) (by simp only [List.length_map, hll, List.length_cons, List.length_nil]; omega) fun vn hvn => ?_
      refine fin ⟨rfl, rfl⟩ ?_
      rw [show (List.replicate i (0 : Int)).map cn ++ [cn c] = (up i [c]).map cn by unfold up; rw [List.map_append]; rfl]
      exact Seals.trans (Seals.toldL hvn) (Seals.sub (by repeat (first | exact Sub.nil _ | refine Sub.cons (by repeat (first | exact List.Mem.head _ | apply List.Mem.tail)) ?_)))
/-- Another quotient: its lead is divided, too. -/
theorem lead_div {q T R T' R' : List Int} (e : ∀ x, pev q x * pev T x + pev R x = pev q x * pev T' x + pev R' x) (h1 : dg q ≤ dg R) (h2 : dg R' < dg q) : ld q ∣ ld R := by
  have hd : dg (psub R R') = dg R := by
    refine Nat.le_antisymm (dg_le.2 fun i hi => ?_) ?_
    · rw [co_psub, dg_le.1 (Nat.le_refl (dg R)) i (by omega), dg_le.1 (Nat.le_refl (dg R')) i (by omega)]; rfl
    · refine Nat.not_lt.1 fun h => ?_
      have h3 := dg_le.1 (show dg (psub R R') ≤ dg R - 1 by omega) (dg R - 1) (Nat.le_refl _)
      rw [co_psub, dg_le.1 (Nat.le_refl (dg R')) (dg R - 1) (by omega)] at h3
      have h4 := ld_ne (l := R) (by omega)
      unfold ld at h4
      omega
  have hl : ld (psub R R') = ld R := by
    unfold ld
    rw [hd, co_psub, dg_le.1 (Nat.le_refl (dg R')) (dg R - 1) (by omega)]; omega
  rw [← hl]
  refine ld_dvd ⟨psub T' T, fun x => ?_⟩ (by omega)
  have := e x
  rw [ev_psub, ev_psub, Int.mul_sub]; omega
/-- What parts tells. -/
structure PartSpec (p q T R : List Int) (ok : Bool) : Prop where
  yes : ok = true → Nm T ∧ Nm R ∧ dg R < dg q ∧ ∀ x, pev p x = pev q x * pev T x + pev R x
  no : ok = false → T = [] ∧ R = [] ∧ ¬ ∃ T' R' : List Int, dg R' < dg q ∧ ∀ x, pev p x = pev q x * pev T' x + pev R' x
def pks (k l j : Nat) : Nat := k + j * (l + 2)
theorem pks_succ (k l j : Nat) : pks k l (j + 1) = pks k l j + l + 2 := by unfold pks; rw [Nat.succ_mul]; omega
theorem pks_mono (k l : Nat) {i j : Nat} (h : i ≤ j) : pks k l i ≤ pks k l j := Nat.add_le_add_left (Nat.mul_le_mul_right _ h) _
theorem rParts_meets (v w : Value) (p q : Row) (k l : Nat) (hp : Fit k p) (hq : Fit l q) (h0 : 0 < dg (vv q)) (h1l : 1 ≤ l) (hlk : l ≤ k) (lp : p.length ≤ 1048576) (lq : q.length ≤ 1048576) (hk : 2 * pks k l (p.length + 2) ≤ 34359738368) :
    Meets Tryz.prog 68 [v, w] [(v, V p), (w, V q)] (fun r os fs => os = [] ∧ ∃ a b T R ok, r = .tuple #[a, b, .bool ok] ∧ PartSpec (vv p) (vv q) T R ok ∧ szR (pks k l (p.length + 2)) T ∧ szR (pks k l (p.length + 2)) R ∧ T.length ≤ p.length ∧ R.length ≤ p.length ∧ fs = [(a, vd T), (b, vd R)]) := by
  have hkk : k ≤ pks k l (p.length + 2) := by unfold pks; omega
  have n1 := rNormP_meets v p (hp.mono (by omega)) (by omega)
  have d2 := rDegreeN w q (hq.mono (by omega))
  have c2 := rLead_meets w q (hq.mono (by omega))
  have sld : sz (ld (vv q)) l := hq.szR.get _
  have hldq := ld_ne h0
  have la : (nrm (vv p)).length ≤ p.length := Nat.le_trans (nrm_length_le _) (by rw [vv_len]; exact Nat.le_refl _)
  have sA := hp.szR.nrm
  have nA : Nm (nrm (vv p)) := nrm_nrm _
  have eA : ∀ x, pev (nrm (vv p)) x = pev (vv p) x := ev_nrm _
  refine meets_of_vc Tryz.func68 (by kernel_rfl) rfl (by kernel_rfl) (Nat.le_of_ble_eq_true rfl) ?_
  refine empty_L (size := 2) (e := 30) J z0 (by decide) fun v0 hv0 => ?_
  refine call_fn (n1) (Seals.refl _ _) (by repeat (first | exact Sub.nil _ | refine Sub.cons (by repeat (first | exact List.Mem.head _ | apply List.Mem.tail)) ?_)) ?_
  rintro x1 _ _ ⟨rfl, rfl⟩
  generalize nrm (vv p) = A at *
  refine loop_rule (X := Nat × Value × Value × List Int × List Int) (fun x => ([(0, v), (1, w), (7, x.2.1), (8, x.2.2.1)], [], [(v, V p), (w, V q), (x.2.1, vd x.2.2.2.1), (x.2.2.1, vd x.2.2.2.2)]))
    (fun x => Nm x.2.2.2.1 ∧ Nm x.2.2.2.2 ∧ x.2.2.2.2.length + x.1 ≤ A.length ∧ szR (pks k l x.1) x.2.2.2.1 ∧ szR (pks k l x.1) x.2.2.2.2 ∧ x.2.2.2.1.length ≤ p.length ∧ ∀ y, pev (vv p) y = pev (vv q) y * pev x.2.2.2.1 y + pev x.2.2.2.2 y) (fun x => x.2.2.2.2.length) rfl ?_ ?_
  · refine again (0, v0, x1, [], A) ⟨rfl, nA, Nat.le_refl _, fun x hx => by simp at hx, sA.mono (by unfold pks; omega), Nat.zero_le _, fun y => by simp only [pev]; rw [eA]; omega⟩ trivial (by repeat (first | exact trivial | refine ⟨rfl, ?_⟩ | refine ⟨i64_eq (by first | omega | (simp only; omega)), ?_⟩ | refine ⟨u64_eq (by first | omega | (simp only; omega)), ?_⟩)) ?_
    exact Seals.trans (Seals.L (os := [ownL 2 J z0 v0 []]) 0 rfl hv0) (Seals.sub (by repeat (first | exact Sub.nil _ | refine Sub.cons (by repeat (first | exact List.Mem.head _ | apply List.Mem.tail)) ?_)))
  · rintro ⟨j, va, vb, T, R⟩ ⟨g1, g2, g3, g4, g5, g6, g7⟩
    simp only at g1 g2 g3 g4 g5 g6 g7 ⊢
    have dR := dg_nm g2
    have hjn : pks k l (j + 1 + 1) ≤ pks k l (p.length + 2) := pks_mono k l (by omega)
    have hj1 := pks_succ k l j
    have hj2 := pks_succ k l (j + 1)
    refine call_fn (rDegreeT vb R g5 (by omega)) (Seals.refl _ _) (by repeat (first | exact Sub.nil _ | refine Sub.cons (by repeat (first | exact List.Mem.head _ | apply List.Mem.tail)) ?_)) ?_
    rintro _ _ _ ⟨rfl, rfl, rfl⟩
    refine call_fn (d2) (Seals.refl _ _) (by repeat (first | exact Sub.nil _ | refine Sub.cons (by repeat (first | exact List.Mem.head _ | apply List.Mem.tail)) ?_)) ?_
    rintro _ _ _ ⟨rfl, rfl, rfl⟩
    refine cmp_split _ rfl (fun hge => ?_) (fun hge => ?_)
    · have hR : dg (vv q) ≤ dg R := by omega
      have slR : sz (ld R) (pks k l j) := g5.get _
      have slk : sz (ld (vv q)) (pks k l j) := sld.mono (by unfold pks; omega)
      have sc : sz (ld R / ld (vv q)) (pks k l j) := sz_div slR
      have sr : sz (ld R % ld (vv q)) (pks k l j) := by
        have a1 := Int.emod_nonneg (ld R) hldq
        have a2 := Int.emod_lt (ld R) hldq
        unfold sz at slk ⊢; omega
      have hs : ((dg R - dg (vv q) : Nat) : Int) = ((dg R : Nat) - 1 : Int) - ((dg (vv q) : Nat) - 1 : Int) := by omega
      have c3 := fun u => rTerm_meets u (ld R / ld (vv q)) (dg R - dg (vv q)) (by omega)
      rw [hs] at c3
      have sx : szR (pks k l j) (up (dg R - dg (vv q)) [ld R / ld (vv q)]) := fun x hx => by
        unfold up at hx
        rcases List.mem_append.1 hx with hx | hx
        · rw [List.eq_of_mem_replicate hx]; exact sz_zero _
        · rw [List.mem_singleton.1 hx]; exact sc
      have lx : (up (dg R - dg (vv q)) [ld R / ld (vv q)]).length = dg R - dg (vv q) + 1 := by rw [up_len]; rfl
      have ex : ∀ x, pev (up (dg R - dg (vv q)) [ld R / ld (vv q)]) x = x ^ (dg R - dg (vv q)) * (ld R / ld (vv q)) := fun x => by rw [ev_up]; simp [pev]
      have hdivs : ld R % ld (vv q) = 0 → dg (psub R (pmul (up (dg R - dg (vv q)) [ld R / ld (vv q)]) (vv q))) < dg R := fun h => by
        have := div_dg (R := R) (D := vv q) (c := ld R / ld (vv q)) h0 hR (Int.ediv_mul_cancel (Int.dvd_of_emod_eq_zero h))
        rw [dg_ext (m := psub R (prai (ld R / ld (vv q)) (dg R - dg (vv q)) (vv q))) fun x => by rw [ev_psub, ev_psub, ev_pmul, ex, ev_prai]; grind]
        exact this
      have hno : ld R % ld (vv q) ≠ 0 → ¬ ∃ T' R' : List Int, dg R' < dg (vv q) ∧ ∀ x, pev (vv p) x = pev (vv q) x * pev T' x + pev R' x := fun h ⟨T', R', h1, h2⟩ =>
        h (Int.emod_eq_zero_of_dvd (lead_div (T := T) (T' := T') (fun x => by rw [← g7, h2]) hR h1))
      generalize hX : up (dg R - dg (vv q)) [ld R / ld (vv q)] = X at *
      have sm : szR (pks k l j + l + 1) (pmul X (vv q)) := pmul_szR sx hq.szR (by omega)
      have lm : (pmul X (vv q)).length ≤ X.length + q.length := by
        have a1 := dg_le_len X
        have a2 : dg (vv q) ≤ q.length := Nat.le_trans (dg_le_len _) (by rw [vv_len]; exact Nat.le_refl _)
        by_cases h1 : 0 < dg X
        · have := (pmul_dg h1 h0).1
          rw [dg_nm (pmul_nm _ _)] at this
          omega
        · have : pmul X (vv q) = [] := (pmul_nm _ _).ext Nm.nil fun x => by rw [ev_pmul, dg_zero.1 (show dg X = 0 by omega)]; simp [pev]
          rw [this]; exact Nat.zero_le _
      have c4 := fun u => rPAdd_meets va u (T.map cn) (X.map cn) (pks k l j) g4.fit sx.fit (by omega) (by rw [List.length_map]; omega) (by rw [List.length_map]; omega)
      have c5 := fun u => rPMul_meets u w (X.map cn) q (pks k l j) l sx.fit hq (by omega) (by rw [List.length_map]; omega) (by omega)
      have c6 := fun u => rPSub_meets vb u (R.map cn) ((pmul X (vv q)).map cn) (pks k l j + l + 1) (g5.mono (by omega)).fit sm.fit (by omega) (by omega) (by rw [List.length_map]; omega) (by rw [List.length_map]; omega)
      simp only [vv_cn] at c4 c5 c6
      have z1 : szR (pks k l (j + 1)) (padd T X) := (g4.padd sx).mono (by omega)
      have z2 : szR (pks k l (j + 1)) (psub R (pmul X (vv q))) := ((g5.mono (show pks k l j ≤ pks k l j + l + 1 by omega)).psub sm).mono (by omega)
      have lT := padd_len T X
      have e7 : ∀ y, pev (vv p) y = pev (vv q) y * pev (padd T X) y + pev (psub R (pmul X (vv q))) y := fun y => by
        rw [ev_padd, ev_psub, ev_pmul, g7]; grind
      have nT : Nm (padd T X) := padd_nm _ _
      have nR : Nm (psub R (pmul X (vv q))) := psub_nm _ _
      have dR2 := dg_nm nR
      generalize padd T X = T2 at *
      generalize psub R (pmul X (vv q)) = R2 at *
      refine call_fn (rLeadT vb R g5 (by omega)) (Seals.refl _ _) (by repeat (first | exact Sub.nil _ | refine Sub.cons (by repeat (first | exact List.Mem.head _ | apply List.Mem.tail)) ?_)) ?_
      rintro y1 _ _ ⟨rfl, rfl⟩
      refine call_fn (c2) (Seals.refl _ _) (by repeat (first | exact Sub.nil _ | refine Sub.cons (by repeat (first | exact List.Mem.head _ | apply List.Mem.tail)) ?_)) ?_
      rintro y2 _ _ ⟨rfl, rfl⟩
      refine call_fn (rDivModZ y1 y2 (ld R) (ld (vv q)) (pks k l j) slR slk (by omega) hldq) (Seals.refl _ _) (by repeat (first | exact Sub.nil _ | refine Sub.cons (by repeat (first | exact List.Mem.head _ | apply List.Mem.tail)) ?_)) ?_
      rintro _ _ _ ⟨rfl, y3, y4, rfl, rfl⟩
      refine alloc_rule (d := I false []) fun bc hc => ?_
      refine alloc_rule (d := I false []) fun bm hm => ?_
      refine store_box (d := zd (ld R / ld (vv q))) 1 rfl hc rfl (by kernel_rfl) ?_ ?_; exact Reads.fact (by repeat (first | exact List.Mem.head _ | apply List.Mem.tail))
      refine store_box (d := zd (ld R % ld (vv q))) 0 rfl hm rfl (by kernel_rfl) ?_ ?_; exact Reads.fact (by repeat (first | exact List.Mem.head _ | apply List.Mem.tail))
      refine load_box (d := zd (ld R % ld (vv q))) 0 rfl hm rfl (load_I _ _) fun y5 => ?_
      have hz := zero_meets y5 (cn (ld R % ld (vv q))) (Lim_lims _) (Nat.le_trans sr.len (by omega))
      rw [jv_cn] at hz
      by_cases hr0 : ld R % ld (vv q) = 0
      · rw [decide_eq_true hr0] at hz
        refine call_fn (hz) (Seals.refl _ _) (by repeat (first | exact Sub.nil _ | refine Sub.cons (by repeat (first | exact List.Mem.head _ | apply List.Mem.tail)) ?_)) ?_
        rintro _ _ _ ⟨rfl, rfl, rfl⟩
        have hlt := hdivs hr0
        refine draw_rule [0, 1, 3, 2, 4, 5, 6, 7] [0, 1, 2, 3, 4, 5, 6, 7] (by kernel_rfl) (by kernel_rfl) ?_
        refine load_box (d := zd (ld R / ld (vv q))) 1 rfl hc rfl (load_I _ _) fun y6 => ?_
        refine call_fn (rDegreeT vb R g5 (by omega)) (Seals.refl _ _) (by repeat (first | exact Sub.nil _ | refine Sub.cons (by repeat (first | exact List.Mem.head _ | apply List.Mem.tail)) ?_)) ?_
        rintro _ _ _ ⟨rfl, rfl, rfl⟩
        refine call_fn (d2) (Seals.refl _ _) (by repeat (first | exact Sub.nil _ | refine Sub.cons (by repeat (first | exact List.Mem.head _ | apply List.Mem.tail)) ?_)) ?_
        rintro _ _ _ ⟨rfl, rfl, rfl⟩
        refine ar rfl (by first | exact ⟨by omega, by omega⟩ | (simp only [inK]; omega)) ?_
        refine call_fn (c3 y6) (Seals.refl _ _) (by repeat (first | exact Sub.nil _ | refine Sub.cons (by repeat (first | exact List.Mem.head _ | apply List.Mem.tail)) ?_)) ?_
        rintro y7 _ _ ⟨rfl, rfl⟩
        refine call_fn (c4 y7) (Seals.refl _ _) (by repeat (first | exact Sub.nil _ | refine Sub.cons (by repeat (first | exact List.Mem.head _ | apply List.Mem.tail)) ?_)) ?_
        rintro y8 _ _ ⟨rfl, rfl⟩
        refine call_fn (c5 y7) (Seals.refl _ _) (by repeat (first | exact Sub.nil _ | refine Sub.cons (by repeat (first | exact List.Mem.head _ | apply List.Mem.tail)) ?_)) ?_
        rintro y9 _ _ ⟨rfl, rfl⟩
        refine call_fn (c6 y9) (Seals.refl _ _) (by repeat (first | exact Sub.nil _ | refine Sub.cons (by repeat (first | exact List.Mem.head _ | apply List.Mem.tail)) ?_)) ?_
        rintro y10 _ _ ⟨rfl, rfl⟩
        exact again (j + 1, y8, y10, T2, R2) ⟨nT, nR, by simp only; omega, z1, z2, by simp only; omega, e7⟩ (by simp only; omega) (by repeat (first | exact trivial | refine ⟨rfl, ?_⟩ | refine ⟨i64_eq (by first | omega | (simp only; omega)), ?_⟩ | refine ⟨u64_eq (by first | omega | (simp only; omega)), ?_⟩)) (Seals.trans (Seals.drop 0 _ _) (Seals.trans (Seals.drop 0 _ _) (Seals.sub (by repeat (first | exact Sub.nil _ | refine Sub.cons (by repeat (first | exact List.Mem.head _ | apply List.Mem.tail)) ?_)))))
      · rw [decide_eq_false hr0] at hz
        refine call_fn (hz) (Seals.refl _ _) (by repeat (first | exact Sub.nil _ | refine Sub.cons (by repeat (first | exact List.Mem.head _ | apply List.Mem.tail)) ?_)) ?_
        rintro _ _ _ ⟨rfl, rfl, rfl⟩
        exact fin ⟨rfl, _, _, [], [], false, rfl, ⟨fun h => by simp at h, fun _ => ⟨rfl, rfl, hno hr0⟩⟩, fun x hx => by simp at hx, fun x hx => by simp at hx, Nat.zero_le _, Nat.zero_le _, rfl⟩ (Seals.trans (Seals.drop 0 _ _) (Seals.trans (Seals.drop 0 _ _) (Seals.cons (Knw.nil 2 _) (Seals.cons (Knw.nil 2 _) (Seals.nil _ _)))))
    · have hn := rNormT va T (g4.mono (by omega)) (by omega)
      refine call_fn (hn) (Seals.refl _ _) (by repeat (first | exact Sub.nil _ | refine Sub.cons (by repeat (first | exact List.Mem.head _ | apply List.Mem.tail)) ?_)) ?_
      rintro y1 _ _ ⟨rfl, rfl⟩
      have e : nrm T = T := g1
      rw [e]
      exact fin ⟨rfl, y1, vb, T, R, true, rfl, ⟨fun _ => ⟨g1, g2, by omega, g7⟩, fun h => by simp at h⟩, g4.mono (by omega), g5.mono (by omega), g6, by omega, rfl⟩ (Seals.sub (by repeat (first | exact Sub.nil _ | refine Sub.cons (by repeat (first | exact List.Mem.head _ | apply List.Mem.tail)) ?_)))
end Go.Proofs.YtdnjahdppgjmlaaGreat

namespace Go.Proofs.YtdnjahdppgjmlaaGreat
open Go.RowKit
theorem rDivide_meets (v w : Value) (p q : Row) (k l : Nat) (hp : Fit k p) (hq : Fit l q) (h1l : 1 ≤ l) (hlk : l ≤ k) (lp : p.length ≤ 1048576) (lq : q.length ≤ 1048576) (hk : 2 * pks k l (p.length + 2) ≤ 34359738368) :
    Meets Tryz.prog 43 [v, w] [(v, V p), (w, V q)] (fun r os fs => os = [] ∧ ∃ a t e, r = .tuple #[a, .int .i64 e] ∧ DivSpec (vv p) (vv q) t e ∧ fs = [(a, vd t)]) := by
  have hkk : k ≤ pks k l (p.length + 2) := by unfold pks; omega
  have d2 := rDegreeN w q (hq.mono (by omega))
  have hpt := fun h0 => rParts_meets v w p q k l hp hq h0 h1l hlk lp lq hk
  refine meets_of_vc Tryz.func43 (by kernel_rfl) rfl (by kernel_rfl) (Nat.le_of_ble_eq_true rfl) ?_
  refine call_fn (d2) (Seals.refl _ _) (by repeat (first | exact Sub.nil _ | refine Sub.cons (by repeat (first | exact List.Mem.head _ | apply List.Mem.tail)) ?_)) ?_
  rintro _ _ _ ⟨rfl, rfl, rfl⟩
  by_cases h0 : dg (vv q) = 0
  · refine cmp_true rfl (by omega) ?_
    exact fin ⟨rfl, _, [], 2, rfl, ⟨rfl, fun _ => ⟨rfl, rfl⟩, fun h => by omega, fun h => by omega⟩, rfl⟩ (Seals.cons (Knw.nil 2 _) (Seals.nil _ _))
  have h0 : 0 < dg (vv q) := by omega
  refine cmp_false rfl (by omega) ?_
  refine call_fn (hpt h0) (Seals.refl _ _) (by repeat (first | exact Sub.nil _ | refine Sub.cons (by repeat (first | exact List.Mem.head _ | apply List.Mem.tail)) ?_)) ?_
  rintro _ _ _ ⟨rfl, a, b, T, R, ok, rfl, hs, sT, sR, lT, lR, rfl⟩
  cases ok with
  | false =>
    obtain ⟨rfl, rfl, hno⟩ := hs.no rfl
    refine fin ⟨rfl, _, [], 11, rfl, ⟨rfl, fun h => by omega, fun _ ⟨t, ht⟩ => ?_, fun _ _ => ⟨rfl, rfl⟩⟩, rfl⟩ (Seals.cons (Knw.nil 2 _) (Seals.nil _ _))
    exact (hno ⟨t, [], by show (0 : Nat) < _; exact h0, fun x => by rw [ht]; simp [pev]⟩).elim
  | true =>
    obtain ⟨nT, nR, hlow, he⟩ := hs.yes rfl
    refine call_fn (rDegreeT b R sR (by omega)) (Seals.refl _ _) (by repeat (first | exact Sub.nil _ | refine Sub.cons (by repeat (first | exact List.Mem.head _ | apply List.Mem.tail)) ?_)) ?_
    rintro _ _ _ ⟨rfl, rfl, rfl⟩
    refine cmp_split _ rfl (fun hr => ?_) (fun hr => ?_)
    · refine fin ⟨rfl, _, [], 11, rfl, ⟨rfl, fun h => by omega, fun _ hd => ?_, fun _ _ => ⟨rfl, rfl⟩⟩, rfl⟩ (Seals.cons (Knw.nil 2 _) (Seals.nil _ _))
      have := (div_no he hd).deg (by omega)
      omega
    · have hR0 := dg_zero.1 (show dg R = 0 by omega)
      have he2 : ∀ x, pev (vv p) x = pev (vv q) x * pev T x := fun x => by rw [he, hR0]; omega
      exact fin ⟨rfl, a, T, 0, rfl, ⟨nT, fun h => by omega, fun _ _ => ⟨rfl, he2⟩, fun _ hn => (hn ⟨T, he2⟩).elim⟩, rfl⟩ (Seals.sub (by repeat (first | exact Sub.nil _ | refine Sub.cons (by repeat (first | exact List.Mem.head _ | apply List.Mem.tail)) ?_)))
/-- What the document's Rest reckons with. -/
def rks (k l n : Nat) : Nat := k + (n + 1) * (l + 1) + 1
theorem rRest_meets (v w : Value) (p q : Row) (k l : Nat) (hp : Fit k p) (hq : Fit l q) (h1l : 1 ≤ l) (hlk : l ≤ k) (lp : p.length ≤ 1048576) (lq : q.length ≤ 1048576) (hk : 4 * pks (rks k l p.length) l (p.length + 2) ≤ 34359738368) :
    Meets Tryz.prog 67 [v, w] [(v, V p), (w, V q)] (fun r os fs => os = [] ∧ ∃ a b T R, (if dg (vv q) = 0 then r = .tuple #[a, b, .int .i64 2] ∧ T = [] ∧ R = [] else r = .tuple #[a, b, .int .i64 0] ∧ RestSpec (vv p) (vv q) T R ∧ szR (pks (rks k l p.length) l (p.length + 2)) T ∧ szR (pks (rks k l p.length) l (p.length + 2)) R ∧ T.length ≤ p.length ∧ R.length ≤ p.length) ∧ fs = [(a, vd T), (b, vd R)]) := by
  have hkk : rks k l p.length ≤ pks (rks k l p.length) l (p.length + 2) := by unfold pks; omega
  have hkr : k ≤ rks k l p.length := by unfold rks; omega
  have hm1 : (p.length + 1) * (l + 1) + 1 ≤ rks k l p.length := by unfold rks; omega
  have d1 := rDegreeN v p (hp.mono (by omega))
  have d2 := rDegreeN w q (hq.mono (by omega))
  have c2 := rLead_meets w q (hq.mono (by omega))
  have sld : sz (ld (vv q)) l := hq.szR.get _
  have hdl : dg (vv p) ≤ p.length := Nat.le_trans (dg_le_len _) (by rw [vv_len]; exact Nat.le_refl _)
  have hdq : dg (vv q) ≤ q.length := Nat.le_trans (dg_le_len _) (by rw [vv_len]; exact Nat.le_refl _)
  refine meets_of_vc Tryz.func67 (by kernel_rfl) rfl (by kernel_rfl) (Nat.le_of_ble_eq_true rfl) ?_
  refine call_fn (d2) (Seals.refl _ _) (by repeat (first | exact Sub.nil _ | refine Sub.cons (by repeat (first | exact List.Mem.head _ | apply List.Mem.tail)) ?_)) ?_
  rintro _ _ _ ⟨rfl, rfl, rfl⟩
  by_cases h0 : dg (vv q) = 0
  · refine cmp_true rfl (by omega) ?_
    refine fin ⟨rfl, _, _, [], [], ?_, rfl⟩ (Seals.cons (Knw.nil 2 _) (Seals.cons (Knw.nil 2 _) (Seals.nil _ _)))
    rw [if_pos h0]
    exact ⟨rfl, rfl, rfl⟩
  have h0 : 0 < dg (vv q) := by omega
  have hd : max (0 : Int) (((dg (vv p) : Nat) - 1 : Int) - ((dg (vv q) : Nat) - 1 : Int) + 1) = ((dg (vv p) + 1 - dg (vv q) : Nat) : Int) := by omega
  obtain ⟨t0, r0, hlow0, he0⟩ := pseudo h0 (dg (vv p)) (vv p) (Nat.le_refl _)
  have hspec : ∀ T R, Nm T → Nm R → dg R < dg (vv q) → (∀ x, pev (ptim (ld (vv q) ^ (dg (vv p) + 1 - dg (vv q))) (vv p)) x = pev (vv q) x * pev T x + pev R x) → RestSpec (vv p) (vv q) T R := fun T R h1 h2 h3 h4 => ⟨h1, h2, h3, fun x => by rw [← h4, ev_ptim]⟩
  have hyes : ∃ T' R' : List Int, dg R' < dg (vv q) ∧ ∀ x, pev (ptim (ld (vv q) ^ (dg (vv p) + 1 - dg (vv q))) (vv p)) x = pev (vv q) x * pev T' x + pev R' x := ⟨t0, r0, hlow0, fun x => by rw [ev_ptim, he0]⟩
  have hdn : dg (vv p) + 1 - dg (vv q) ≤ p.length := by omega
  generalize dg (vv p) + 1 - dg (vv q) = d at *
  have hdm : (d + 1) * (l + 1) ≤ (p.length + 1) * (l + 1) := Nat.mul_le_mul_right _ (by omega)
  have hdm2 : d * l ≤ (p.length + 1) * (l + 1) := Nat.mul_le_mul (by omega) (by omega)
  have spw : sz (ld (vv q) ^ d) ((p.length + 1) * (l + 1) + 1) := (sz_pow sld d).mono (by omega)
  have sp2 : szR (rks k l p.length) (ptim (ld (vv q) ^ d) (vv p)) := (ptim_szR hp.szR spw).mono (by unfold rks; omega)
  have lp2 : (ptim (ld (vv q) ^ d) (vv p)).length ≤ p.length := Nat.le_trans (ptim_len _ _) (by rw [vv_len]; exact Nat.le_refl _)
  have c3 := fun u => rPower_meets u (ld (vv q)) d l sld (by omega)
  have c4 := fun u => rTimes_meets v u p (ld (vv q) ^ d) (rks k l p.length) (hp.mono hkr) (spw.mono hm1) (by omega) (by omega)
  have hpm := pks_mono (rks k l p.length) l (show ((ptim (ld (vv q) ^ d) (vv p)).map cn).length + 2 ≤ p.length + 2 by rw [List.length_map]; omega)
  have c5 := fun u => rParts_meets u w ((ptim (ld (vv q) ^ d) (vv p)).map cn) q (rks k l p.length) l sp2.fit hq h0 h1l (by omega) (by rw [List.length_map]; omega) lq (by omega)
  simp only [vv_cn] at c5
  generalize ld (vv q) ^ d = C at *
  generalize ptim C (vv p) = P2 at *
  refine cmp_false rfl (by omega) ?_
  refine call_fn (d1) (Seals.refl _ _) (by repeat (first | exact Sub.nil _ | refine Sub.cons (by repeat (first | exact List.Mem.head _ | apply List.Mem.tail)) ?_)) ?_
  rintro _ _ _ ⟨rfl, rfl, rfl⟩
  refine call_fn (d2) (Seals.refl _ _) (by repeat (first | exact Sub.nil _ | refine Sub.cons (by repeat (first | exact List.Mem.head _ | apply List.Mem.tail)) ?_)) ?_
  rintro _ _ _ ⟨rfl, rfl, rfl⟩
  refine ar rfl (by first | exact ⟨by omega, by omega⟩ | (simp only [inK]; omega)) ?_
  refine ar rfl (by first | exact ⟨by omega, by omega⟩ | (simp only [inK]; omega)) ?_
  refine max2_rule ?_
  rw [hd]
  refine call_fn (c2) (Seals.refl _ _) (by repeat (first | exact Sub.nil _ | refine Sub.cons (by repeat (first | exact List.Mem.head _ | apply List.Mem.tail)) ?_)) ?_
  rintro y1 _ _ ⟨rfl, rfl⟩
  refine call_fn (c3 y1) (Seals.refl _ _) (by repeat (first | exact Sub.nil _ | refine Sub.cons (by repeat (first | exact List.Mem.head _ | apply List.Mem.tail)) ?_)) ?_
  rintro y2 _ _ ⟨rfl, rfl⟩
  refine call_fn (c4 y2) (Seals.refl _ _) (by repeat (first | exact Sub.nil _ | refine Sub.cons (by repeat (first | exact List.Mem.head _ | apply List.Mem.tail)) ?_)) ?_
  rintro y3 _ _ ⟨rfl, rfl⟩
  refine call_fn (c5 y3) (Seals.refl _ _) (by repeat (first | exact Sub.nil _ | refine Sub.cons (by repeat (first | exact List.Mem.head _ | apply List.Mem.tail)) ?_)) ?_
  rintro _ _ _ ⟨rfl, a, b, T, R, ok, rfl, hs, sT, sR, lT, lR, rfl⟩
  rw [List.length_map] at lT lR
  refine fin ⟨rfl, a, b, T, R, ?_, rfl⟩ (Seals.sub (by repeat (first | exact Sub.nil _ | refine Sub.cons (by repeat (first | exact List.Mem.head _ | apply List.Mem.tail)) ?_)))
  rw [if_neg (by omega)]
  cases ok with
  | false => exact ((hs.no rfl).2.2 hyes).elim
  | true =>
    obtain ⟨nT, nR, hlow, he⟩ := hs.yes rfl
    exact ⟨rfl, hspec T R nT nR hlow he, sT.mono hpm, sR.mono hpm, by omega, by omega⟩
end Go.Proofs.YtdnjahdppgjmlaaGreat

namespace Go.Proofs.YtdnjahdppgjmlaaGreat
open Go.RowKit
theorem take_dg (l : List Int) : l.take (dg l) = nrm l := by
  refine row_eq_of_getD 0 (by rw [List.length_take]; have := dg_le_len l; show min (dg l) l.length = dg l; omega) fun i hi => ?_
  rw [List.length_take] at hi
  rw [co_nrm]
  simp only [List.getD_eq_getElem?_getD, List.getElem?_take]
  rw [if_pos (by omega)]
theorem rContent_meets (v : Value) (p : Row) (k : Nat) (hp : Fit k p) (hk : k ≤ 137438953472) (lp : p.length ≤ 1073741824) :
    Meets Tryz.prog 9 [v] [(v, V p)] (fun r os fs => os = [] ∧ fs = [(r, zd (cont (vv p) : Nat))]) := by
  have d1 := rDegreeN v p (hp.mono (by omega))
  have hN : dg (vv p) ≤ p.length := Nat.le_trans (dg_le_len _) (by rw [vv_len]; exact Nat.le_refl _)
  have hs : ∀ i, sz (cont ((vv p).take i) : Nat) k := fun i => cont_sz (hp.szR.take i)
  have hst : ∀ i, i < p.length → Nat.gcd (cont ((vv p).take i)) (jv (p.getD i z0)).natAbs = cont ((vv p).take (i + 1)) := fun i hi => by
    rw [cont_take (by rw [vv_len]; exact hi), vv_get p i hi]
  have hlast : cont ((vv p).take (dg (vv p))) = cont (vv p) := by rw [take_dg, cont_nrm]
  have h00 : cont ((vv p).take 0) = 0 := rfl
  generalize hC : (fun i => cont ((vv p).take i)) = C
  have hs' : ∀ i, sz (C i : Nat) k := fun i => by rw [← hC]; exact hs i
  have hst' : ∀ i, i < p.length → Nat.gcd (C i) (jv (p.getD i z0)).natAbs = C (i + 1) := fun i hi => by rw [← hC]; exact hst i hi
  have hlast' : C (dg (vv p)) = cont (vv p) := by rw [← hC]; exact hlast
  have h0' : C 0 = 0 := by rw [← hC]; exact h00
  generalize dg (vv p) = n at *
  refine meets_of_vc Tryz.func9 (by kernel_rfl) rfl (by kernel_rfl) (Nat.le_of_ble_eq_true rfl) ?_
  refine alloc_rule (d := I false []) fun o ho => ?_
  refine build0 (da := .one (.bool false)) (db := U (lims 0)) (fun S w => ⟨[.bool false], [.slice none 0 0], rfl, rd_false S w, by rw [lims_zero]; exact rd_nil S w 1 _⟩) fun z => ?_
  refine alloc_rule (d := I false []) fun s hs1 => ?_
  refine store_box (d := zd 0) 0 rfl hs1 rfl (by kernel_rfl) ?_ ?_; exact Reads.fact (by repeat (first | exact List.Mem.head _ | apply List.Mem.tail))
  refine loop_rule (X := Nat) (fun i => ([(0, v), (2, o), (3, s), (4, .int .i64 (i : Nat))], [own1 s 2 1 (fun _ => zd (C i : Nat)), own1 o 2 1 (fun _ => I false [])], [(v, V p)])) (fun i => i ≤ n) (fun i => n - i) rfl ?_ ?_
  · exact again 0 (Nat.zero_le _) trivial (by repeat (first | exact trivial | refine ⟨rfl, ?_⟩ | refine ⟨i64_eq (by first | omega | (simp only; omega)), ?_⟩ | refine ⟨u64_eq (by first | omega | (simp only; omega)), ?_⟩)) (Seals.trans (Seals.box0 (by rw [h0']; rfl)) (Seals.sub (by repeat (first | exact Sub.nil _ | refine Sub.cons (by repeat (first | exact List.Mem.head _ | apply List.Mem.tail)) ?_))))
  · rintro i hi
    refine call_fn (d1) (Seals.refl _ _) (by repeat (first | exact Sub.nil _ | refine Sub.cons (by repeat (first | exact List.Mem.head _ | apply List.Mem.tail)) ?_)) ?_
    rintro _ _ _ ⟨rfl, rfl, rfl⟩
    refine cmp_split _ rfl (fun hlt => ?_) (fun hlt => ?_)
    · have hin : i < p.length := by omega
      have hsi := hs' i
      have hpi := hp.get i
      refine draw_rule [0, 1, 2, 3, 4, 5, 6] [0, 1, 2, 3, 4, 5, 6] (by kernel_rfl) (by kernel_rfl) ?_
      refine load_box (d := zd (C i : Nat)) 0 rfl hs1 rfl (load_I _ _) fun y2 => ?_
      refine index_fact (by repeat (first | exact List.Mem.head _ | apply List.Mem.tail)) i rfl hin fun b1 => ?_
      refine load_fact (d := J (p.getD i z0)) (by repeat (first | exact List.Mem.head _ | apply List.Mem.tail)) (load_J _) fun y3 => ?_
      have hg := rGcdJ y2 y3 (cn (C i : Nat)) (p.getD i z0) (Lim_lims _) (Nat.le_trans hsi.len hk) hpi.1 (by omega)
      rw [jv_cn, Int.natAbs_natCast, hst' i hin] at hg
      refine call_fn hg (Seals.refl _ _) (by repeat (first | exact Sub.nil _ | refine Sub.cons (by repeat (first | exact List.Mem.head _ | apply List.Mem.tail)) ?_)) ?_
      rintro y4 _ _ ⟨rfl, rfl⟩
      refine store_box (d := zd (C (i + 1) : Nat)) 0 rfl hs1 rfl (by kernel_rfl) ?_ ?_; exact Reads.fact (by repeat (first | exact List.Mem.head _ | apply List.Mem.tail))
      refine ar rfl (by first | exact ⟨by omega, by omega⟩ | (simp only [inK]; omega)) ?_
      exact again (i + 1) (by omega) (by simp only; omega) (by repeat (first | exact trivial | refine ⟨rfl, ?_⟩ | refine ⟨i64_eq (by first | omega | (simp only; omega)), ?_⟩ | refine ⟨u64_eq (by first | omega | (simp only; omega)), ?_⟩)) (Seals.trans (Seals.box0 rfl) (Seals.sub (by repeat (first | exact Sub.nil _ | refine Sub.cons (by repeat (first | exact List.Mem.head _ | apply List.Mem.tail)) ?_))))
    · have hip : i = n := by omega
      subst hip
      have hsn := hs' i
      rw [hlast'] at hsn
      rw [hlast']
      have hab := fun y => rAbsZ y _ _ hsn hk
      simp only [Int.natAbs_natCast] at hab
      refine load_box (d := zd (cont (vv p) : Nat)) 0 rfl hs1 rfl (load_I _ _) fun y1 => ?_
      refine call_fn (hab y1) (Seals.refl _ _) (by repeat (first | exact Sub.nil _ | refine Sub.cons (by repeat (first | exact List.Mem.head _ | apply List.Mem.tail)) ?_)) ?_
      rintro y2 _ _ ⟨rfl, rfl⟩
      refine store_box (d := zd (cont (vv p) : Nat)) 1 rfl ho rfl (by kernel_rfl) ?_ ?_; exact Reads.fact (by repeat (first | exact List.Mem.head _ | apply List.Mem.tail))
      refine load_box (d := zd (cont (vv p) : Nat)) 1 rfl ho rfl (load_I _ _) fun r => ?_
      exact fin ⟨rfl, rfl⟩ (Seals.trans (Seals.drop 0 _ _) (Seals.trans (Seals.drop 0 _ _) (Seals.sub (by repeat (first | exact Sub.nil _ | refine Sub.cons (by repeat (first | exact List.Mem.head _ | apply List.Mem.tail)) ?_)))))
/-- The document's Primitive tells what the program's tells. -/
theorem prim_neg {l : List Int} (h : ld l < 0) : ptim (-1) (lst (dg l) fun i => l.getD i 0 / (cont l : Nat)) = pprim l := by
  refine (ptim_nm _ _).ext (nrm_nrm _) fun x => ?_
  unfold pprim
  rw [ptim, ev_nrm, ev_nrm]
  congr 1
  refine row_eq_of_getD 0 (by rw [List.length_map, List.length_map, lst_len]; rfl) fun i hi => ?_
  rw [List.length_map, lst_len] at hi
  rw [← lst_map, ← lst_map, lst_get (by rw [lst_len]; exact hi), lst_get hi, lst_get (show i < (nrm l).length from hi), co_nrm, scont, if_pos h, Int.ediv_neg]
  omega
theorem prim_pos {l : List Int} (h : ¬ ld l < 0) : nrm (lst (dg l) fun i => l.getD i 0 / (cont l : Nat)) = pprim l := by
  unfold pprim
  rw [← lst_map (nrm l) fun y => y / scont l]
  congr 1
  refine row_eq_of_getD 0 (by rw [lst_len, lst_len]; rfl) fun i hi => ?_
  rw [lst_len] at hi
  rw [lst_get hi, lst_get (show i < (nrm l).length from hi), co_nrm, scont, if_neg h]
theorem rPrimitive_meets (v : Value) (p : Row) (k : Nat) (hp : Fit k p) (h1k : 1 ≤ k) (hk : k ≤ 34359738368) (lp : p.length ≤ 536870912) :
    Meets Tryz.prog 12 [v] [(v, V p)] (fun r os fs => os = [] ∧ fs = [(r, vd (pprim (vv p)))]) := by
  have d1 := rDegreeN v p (hp.mono (by omega))
  have ct := rContent_meets v p k hp (by omega) (by omega)
  have l1 := rLead_meets v p (hp.mono (by omega))
  have hN : dg (vv p) ≤ p.length := Nat.le_trans (dg_le_len _) (by rw [vv_len]; exact Nat.le_refl _)
  have hcs : sz (cont (vv p) : Nat) k := cont_sz hp.szR
  have hne : 0 < dg (vv p) → ((cont (vv p) : Nat) : Int) ≠ 0 := fun h e => by
    have h3 := cont_zero.1 (show cont (vv p) = 0 by omega)
    omega
  have sld : sz (ld (vv p)) k := hp.szR.get _
  have hsg := fun u => rSignZ u (ld (vv p)) k sld (by omega)
  have e1 : ld (vv p) < 0 → _ := prim_neg (l := vv p)
  have e2 : ¬ ld (vv p) < 0 → _ := prim_pos (l := vv p)
  have hsz : szR k (lst (dg (vv p)) fun i => (vv p).getD i 0 / (cont (vv p) : Nat)) := szR.lst fun i _ => sz_div (hp.szR.get i)
  have hgv : ∀ i, i < p.length → jv (p.getD i z0) / (cont (vv p) : Nat) = (vv p).getD i 0 / (cont (vv p) : Nat) := fun i hi => by rw [vv_get p i hi]
  have hdj : ∀ u u' i, i < p.length → 0 < dg (vv p) → Meets Tryz.prog 35 [u, u'] [(u, J (p.getD i z0)), (u', zd (cont (vv p) : Nat))] (fun r os fs => os = [] ∧ ∃ q m, r = .tuple #[q, m, .bool true] ∧ fs = [(q, zd ((vv p).getD i 0 / (cont (vv p) : Nat))), (m, zd (jv (p.getD i z0) % (cont (vv p) : Nat)))]) := fun u u' i hi h0 => by
    have := rDivModJZ u u' (p.getD i z0) (cont (vv p) : Nat) k (hp.get i).1 (Nat.le_trans (hp.get i).2 hk) hcs hk (hne h0)
    rw [hgv i hi] at this
    exact this
  generalize pprim (vv p) = A at *
  generalize ld (vv p) = L at *
  generalize hg : (fun i => (vv p).getD i 0 / (cont (vv p) : Nat)) = g at *
  have hdj' : ∀ u u' i, i < p.length → 0 < dg (vv p) → Meets Tryz.prog 35 [u, u'] [(u, J (p.getD i z0)), (u', zd (cont (vv p) : Nat))] (fun r os fs => os = [] ∧ ∃ q m, r = .tuple #[q, m, .bool true] ∧ fs = [(q, zd (g i)), (m, zd (jv (p.getD i z0) % (cont (vv p) : Nat)))]) := by
    rw [← hg]; exact hdj
  generalize cont (vv p) = ctv at *
  generalize dg (vv p) = n at *
  refine meets_of_vc Tryz.func12 (by kernel_rfl) rfl (by kernel_rfl) (Nat.le_of_ble_eq_true rfl) ?_
  refine empty_L (size := 2) (e := 30) J z0 (by decide) fun v0 hv0 => ?_
  refine loop_rule (X := Value × Nat) (fun x => ([(0, v), (3, x.1), (4, .int .i64 (x.2 : Nat))], [ownL 2 J z0 x.1 ((lst x.2 g).map cn)], [(v, V p)])) (fun x => isSl x.1 ∧ x.2 ≤ n) (fun x => n - x.2) rfl ?_ ?_
  · exact again (v0, 0) ⟨hv0, Nat.zero_le _⟩ trivial (by repeat (first | exact trivial | refine ⟨rfl, ?_⟩ | refine ⟨i64_eq (by first | omega | (simp only; omega)), ?_⟩ | refine ⟨u64_eq (by first | omega | (simp only; omega)), ?_⟩)) (Seals.sub (by repeat (first | exact Sub.nil _ | refine Sub.cons (by repeat (first | exact List.Mem.head _ | apply List.Mem.tail)) ?_)))
  · rintro ⟨vo, i⟩ ⟨hvo, h2⟩
    simp only at hvo h2 ⊢
    have hll : (lst i g).length = i := lst_len _ _
    refine call_fn (d1) (Seals.refl _ _) (by repeat (first | exact Sub.nil _ | refine Sub.cons (by repeat (first | exact List.Mem.head _ | apply List.Mem.tail)) ?_)) ?_
    rintro _ _ _ ⟨rfl, rfl, rfl⟩
    refine cmp_split _ rfl (fun hlt => ?_) (fun hlt => ?_)
    · have hin : i < p.length := by omega
      have hdv := fun u u' => hdj' u u' i hin (by omega)
      generalize jv (p.getD i z0) % (ctv : Nat) = m at *
      refine draw_join (X := Value) (fun z => ([(0, v), (3, vo), (4, .int .i64 (i : Nat)), (5, z)], [ownL 2 J z0 vo ((lst i g).map cn)], [(v, V p), (z, .ptr (zd (g i)))])) (fun _ => True) ?_ ?_
      ·
        refine draw_ord [0, 1, 2, 3, 4, 5, 6, 7, 8, 11, 12, 13, 9, 14, 10, 15] (by kernel_rfl) ?_
        refine ord_split 5 11 (by kernel_rfl) (by kernel_rfl) (by kernel_rfl) ?_ ?_
        · refine ord_split 5 12 (by kernel_rfl) (by kernel_rfl) (by kernel_rfl) ?_ ?_
          · refine ord_split 6 11 (by kernel_rfl) (by kernel_rfl) (by kernel_rfl) ?_ ?_
            · refine ord_split 6 12 (by kernel_rfl) (by kernel_rfl) (by kernel_rfl) ?_ ?_
              · refine ord_split 11 12 (by kernel_rfl) (by kernel_rfl) (by kernel_rfl) ?_ ?_
                · refine ord_go [0, 1, 2, 3, 4, 5, 6, 7, 8, 9, 10, 11, 12, 13, 14, 15] (by kernel_rfl) (by kernel_rfl) ?_
                  refine index_fact (by repeat (first | exact List.Mem.head _ | apply List.Mem.tail)) i rfl hin fun b1 => ?_
                  refine load_fact (d := J (p.getD i z0)) (by repeat (first | exact List.Mem.head _ | apply List.Mem.tail)) (load_J _) fun y1 => ?_
                  refine call_fn (ct) (Seals.refl _ _) (by repeat (first | exact Sub.nil _ | refine Sub.cons (by repeat (first | exact List.Mem.head _ | apply List.Mem.tail)) ?_)) ?_
                  rintro y2 _ _ ⟨rfl, rfl⟩
                  refine call_fn (hdv y1 y2) (Seals.refl _ _) (by repeat (first | exact Sub.nil _ | refine Sub.cons (by repeat (first | exact List.Mem.head _ | apply List.Mem.tail)) ?_)) ?_
                  rintro _ _ _ ⟨rfl, y3, y4, rfl, rfl⟩
                  refine alloc_rule (d := I false []) fun b5 h5 => ?_
                  refine alloc_rule (d := I false []) fun b6 h6 => ?_
                  refine store_box (d := zd (g i)) 1 rfl h5 rfl (by kernel_rfl) (Reads.fact (by repeat (first | exact List.Mem.head _ | apply List.Mem.tail))) ?_
                  refine store_box (d := zd m) 0 rfl h6 rfl (by kernel_rfl) (Reads.fact (by repeat (first | exact List.Mem.head _ | apply List.Mem.tail))) ?_
                  exact again b5 trivial trivial (by repeat (first | exact trivial | refine ⟨rfl, ?_⟩ | refine ⟨i64_eq (by first | omega | (simp only; omega)), ?_⟩ | refine ⟨u64_eq (by first | omega | (simp only; omega)), ?_⟩)) (Seals.trans (Seals.drop 0 _ _) (Seals.trans (Seals.box (d := zd (g i)) 0 rfl h5 rfl) (Seals.sub (by repeat (first | exact Sub.nil _ | refine Sub.cons (by repeat (first | exact List.Mem.head _ | apply List.Mem.tail)) ?_)))))
                · refine ord_go [0, 1, 2, 3, 4, 5, 6, 7, 8, 9, 10, 12, 11, 13, 14, 15] (by kernel_rfl) (by kernel_rfl) ?_
                  refine index_fact (by repeat (first | exact List.Mem.head _ | apply List.Mem.tail)) i rfl hin fun b1 => ?_
                  refine load_fact (d := J (p.getD i z0)) (by repeat (first | exact List.Mem.head _ | apply List.Mem.tail)) (load_J _) fun y1 => ?_
                  refine call_fn (ct) (Seals.refl _ _) (by repeat (first | exact Sub.nil _ | refine Sub.cons (by repeat (first | exact List.Mem.head _ | apply List.Mem.tail)) ?_)) ?_
                  rintro y2 _ _ ⟨rfl, rfl⟩
                  refine call_fn (hdv y1 y2) (Seals.refl _ _) (by repeat (first | exact Sub.nil _ | refine Sub.cons (by repeat (first | exact List.Mem.head _ | apply List.Mem.tail)) ?_)) ?_
                  rintro _ _ _ ⟨rfl, y3, y4, rfl, rfl⟩
                  refine alloc_rule (d := I false []) fun b6 h6 => ?_
                  refine alloc_rule (d := I false []) fun b5 h5 => ?_
                  refine store_box (d := zd (g i)) 0 rfl h5 rfl (by kernel_rfl) (Reads.fact (by repeat (first | exact List.Mem.head _ | apply List.Mem.tail))) ?_
                  refine store_box (d := zd m) 1 rfl h6 rfl (by kernel_rfl) (Reads.fact (by repeat (first | exact List.Mem.head _ | apply List.Mem.tail))) ?_
                  exact again b5 trivial trivial (by repeat (first | exact trivial | refine ⟨rfl, ?_⟩ | refine ⟨i64_eq (by first | omega | (simp only; omega)), ?_⟩ | refine ⟨u64_eq (by first | omega | (simp only; omega)), ?_⟩)) (Seals.trans (Seals.box (d := zd (g i)) 0 rfl h5 rfl) (Seals.trans (Seals.drop 0 _ _) (Seals.sub (by repeat (first | exact Sub.nil _ | refine Sub.cons (by repeat (first | exact List.Mem.head _ | apply List.Mem.tail)) ?_)))))
              · refine ord_go [0, 1, 2, 3, 4, 5, 12, 6, 7, 8, 9, 10, 11, 13, 14, 15] (by kernel_rfl) (by kernel_rfl) ?_
                refine index_fact (by repeat (first | exact List.Mem.head _ | apply List.Mem.tail)) i rfl hin fun b1 => ?_
                refine load_fact (d := J (p.getD i z0)) (by repeat (first | exact List.Mem.head _ | apply List.Mem.tail)) (load_J _) fun y1 => ?_
                refine call_fn (ct) (Seals.refl _ _) (by repeat (first | exact Sub.nil _ | refine Sub.cons (by repeat (first | exact List.Mem.head _ | apply List.Mem.tail)) ?_)) ?_
                rintro y2 _ _ ⟨rfl, rfl⟩
                refine alloc_rule (d := I false []) fun b6 h6 => ?_
                refine call_fn (hdv y1 y2) (Seals.refl _ _) (by repeat (first | exact Sub.nil _ | refine Sub.cons (by repeat (first | exact List.Mem.head _ | apply List.Mem.tail)) ?_)) ?_
                rintro _ _ _ ⟨rfl, y3, y4, rfl, rfl⟩
                refine alloc_rule (d := I false []) fun b5 h5 => ?_
                refine store_box (d := zd (g i)) 0 rfl h5 rfl (by kernel_rfl) (Reads.fact (by repeat (first | exact List.Mem.head _ | apply List.Mem.tail))) ?_
                refine store_box (d := zd m) 1 rfl h6 rfl (by kernel_rfl) (Reads.fact (by repeat (first | exact List.Mem.head _ | apply List.Mem.tail))) ?_
                exact again b5 trivial trivial (by repeat (first | exact trivial | refine ⟨rfl, ?_⟩ | refine ⟨i64_eq (by first | omega | (simp only; omega)), ?_⟩ | refine ⟨u64_eq (by first | omega | (simp only; omega)), ?_⟩)) (Seals.trans (Seals.box (d := zd (g i)) 0 rfl h5 rfl) (Seals.trans (Seals.drop 0 _ _) (Seals.sub (by repeat (first | exact Sub.nil _ | refine Sub.cons (by repeat (first | exact List.Mem.head _ | apply List.Mem.tail)) ?_)))))
            · refine ord_split 6 12 (by kernel_rfl) (by kernel_rfl) (by kernel_rfl) ?_ ?_
              · refine ord_go [0, 1, 2, 3, 4, 5, 11, 6, 7, 8, 9, 10, 12, 13, 14, 15] (by kernel_rfl) (by kernel_rfl) ?_
                refine index_fact (by repeat (first | exact List.Mem.head _ | apply List.Mem.tail)) i rfl hin fun b1 => ?_
                refine load_fact (d := J (p.getD i z0)) (by repeat (first | exact List.Mem.head _ | apply List.Mem.tail)) (load_J _) fun y1 => ?_
                refine call_fn (ct) (Seals.refl _ _) (by repeat (first | exact Sub.nil _ | refine Sub.cons (by repeat (first | exact List.Mem.head _ | apply List.Mem.tail)) ?_)) ?_
                rintro y2 _ _ ⟨rfl, rfl⟩
                refine alloc_rule (d := I false []) fun b5 h5 => ?_
                refine call_fn (hdv y1 y2) (Seals.refl _ _) (by repeat (first | exact Sub.nil _ | refine Sub.cons (by repeat (first | exact List.Mem.head _ | apply List.Mem.tail)) ?_)) ?_
                rintro _ _ _ ⟨rfl, y3, y4, rfl, rfl⟩
                refine alloc_rule (d := I false []) fun b6 h6 => ?_
                refine store_box (d := zd (g i)) 1 rfl h5 rfl (by kernel_rfl) (Reads.fact (by repeat (first | exact List.Mem.head _ | apply List.Mem.tail))) ?_
                refine store_box (d := zd m) 0 rfl h6 rfl (by kernel_rfl) (Reads.fact (by repeat (first | exact List.Mem.head _ | apply List.Mem.tail))) ?_
                exact again b5 trivial trivial (by repeat (first | exact trivial | refine ⟨rfl, ?_⟩ | refine ⟨i64_eq (by first | omega | (simp only; omega)), ?_⟩ | refine ⟨u64_eq (by first | omega | (simp only; omega)), ?_⟩)) (Seals.trans (Seals.drop 0 _ _) (Seals.trans (Seals.box (d := zd (g i)) 0 rfl h5 rfl) (Seals.sub (by repeat (first | exact Sub.nil _ | refine Sub.cons (by repeat (first | exact List.Mem.head _ | apply List.Mem.tail)) ?_)))))
              · refine ord_split 11 12 (by kernel_rfl) (by kernel_rfl) (by kernel_rfl) ?_ ?_
                · refine ord_go [0, 1, 2, 3, 4, 5, 11, 12, 6, 7, 8, 9, 10, 13, 14, 15] (by kernel_rfl) (by kernel_rfl) ?_
                  refine index_fact (by repeat (first | exact List.Mem.head _ | apply List.Mem.tail)) i rfl hin fun b1 => ?_
                  refine load_fact (d := J (p.getD i z0)) (by repeat (first | exact List.Mem.head _ | apply List.Mem.tail)) (load_J _) fun y1 => ?_
                  refine call_fn (ct) (Seals.refl _ _) (by repeat (first | exact Sub.nil _ | refine Sub.cons (by repeat (first | exact List.Mem.head _ | apply List.Mem.tail)) ?_)) ?_
                  rintro y2 _ _ ⟨rfl, rfl⟩
                  refine alloc_rule (d := I false []) fun b5 h5 => ?_
                  refine alloc_rule (d := I false []) fun b6 h6 => ?_
                  refine call_fn (hdv y1 y2) (Seals.refl _ _) (by repeat (first | exact Sub.nil _ | refine Sub.cons (by repeat (first | exact List.Mem.head _ | apply List.Mem.tail)) ?_)) ?_
                  rintro _ _ _ ⟨rfl, y3, y4, rfl, rfl⟩
                  refine store_box (d := zd (g i)) 1 rfl h5 rfl (by kernel_rfl) (Reads.fact (by repeat (first | exact List.Mem.head _ | apply List.Mem.tail))) ?_
                  refine store_box (d := zd m) 0 rfl h6 rfl (by kernel_rfl) (Reads.fact (by repeat (first | exact List.Mem.head _ | apply List.Mem.tail))) ?_
                  exact again b5 trivial trivial (by repeat (first | exact trivial | refine ⟨rfl, ?_⟩ | refine ⟨i64_eq (by first | omega | (simp only; omega)), ?_⟩ | refine ⟨u64_eq (by first | omega | (simp only; omega)), ?_⟩)) (Seals.trans (Seals.drop 0 _ _) (Seals.trans (Seals.box (d := zd (g i)) 0 rfl h5 rfl) (Seals.sub (by repeat (first | exact Sub.nil _ | refine Sub.cons (by repeat (first | exact List.Mem.head _ | apply List.Mem.tail)) ?_)))))
                · refine ord_go [0, 1, 2, 3, 4, 5, 12, 11, 6, 7, 8, 9, 10, 13, 14, 15] (by kernel_rfl) (by kernel_rfl) ?_
                  refine index_fact (by repeat (first | exact List.Mem.head _ | apply List.Mem.tail)) i rfl hin fun b1 => ?_
                  refine load_fact (d := J (p.getD i z0)) (by repeat (first | exact List.Mem.head _ | apply List.Mem.tail)) (load_J _) fun y1 => ?_
                  refine call_fn (ct) (Seals.refl _ _) (by repeat (first | exact Sub.nil _ | refine Sub.cons (by repeat (first | exact List.Mem.head _ | apply List.Mem.tail)) ?_)) ?_
                  rintro y2 _ _ ⟨rfl, rfl⟩
                  refine alloc_rule (d := I false []) fun b6 h6 => ?_
                  refine alloc_rule (d := I false []) fun b5 h5 => ?_
                  refine call_fn (hdv y1 y2) (Seals.refl _ _) (by repeat (first | exact Sub.nil _ | refine Sub.cons (by repeat (first | exact List.Mem.head _ | apply List.Mem.tail)) ?_)) ?_
                  rintro _ _ _ ⟨rfl, y3, y4, rfl, rfl⟩
                  refine store_box (d := zd (g i)) 0 rfl h5 rfl (by kernel_rfl) (Reads.fact (by repeat (first | exact List.Mem.head _ | apply List.Mem.tail))) ?_
                  refine store_box (d := zd m) 1 rfl h6 rfl (by kernel_rfl) (Reads.fact (by repeat (first | exact List.Mem.head _ | apply List.Mem.tail))) ?_
                  exact again b5 trivial trivial (by repeat (first | exact trivial | refine ⟨rfl, ?_⟩ | refine ⟨i64_eq (by first | omega | (simp only; omega)), ?_⟩ | refine ⟨u64_eq (by first | omega | (simp only; omega)), ?_⟩)) (Seals.trans (Seals.box (d := zd (g i)) 0 rfl h5 rfl) (Seals.trans (Seals.drop 0 _ _) (Seals.sub (by repeat (first | exact Sub.nil _ | refine Sub.cons (by repeat (first | exact List.Mem.head _ | apply List.Mem.tail)) ?_)))))
          · refine ord_split 6 11 (by kernel_rfl) (by kernel_rfl) (by kernel_rfl) ?_ ?_
            · refine ord_go [0, 1, 2, 3, 4, 12, 5, 6, 7, 8, 9, 10, 11, 13, 14, 15] (by kernel_rfl) (by kernel_rfl) ?_
              refine index_fact (by repeat (first | exact List.Mem.head _ | apply List.Mem.tail)) i rfl hin fun b1 => ?_
              refine load_fact (d := J (p.getD i z0)) (by repeat (first | exact List.Mem.head _ | apply List.Mem.tail)) (load_J _) fun y1 => ?_
              refine alloc_rule (d := I false []) fun b6 h6 => ?_
              refine call_fn (ct) (Seals.refl _ _) (by repeat (first | exact Sub.nil _ | refine Sub.cons (by repeat (first | exact List.Mem.head _ | apply List.Mem.tail)) ?_)) ?_
              rintro y2 _ _ ⟨rfl, rfl⟩
              refine call_fn (hdv y1 y2) (Seals.refl _ _) (by repeat (first | exact Sub.nil _ | refine Sub.cons (by repeat (first | exact List.Mem.head _ | apply List.Mem.tail)) ?_)) ?_
              rintro _ _ _ ⟨rfl, y3, y4, rfl, rfl⟩
              refine alloc_rule (d := I false []) fun b5 h5 => ?_
              refine store_box (d := zd (g i)) 0 rfl h5 rfl (by kernel_rfl) (Reads.fact (by repeat (first | exact List.Mem.head _ | apply List.Mem.tail))) ?_
              refine store_box (d := zd m) 1 rfl h6 rfl (by kernel_rfl) (Reads.fact (by repeat (first | exact List.Mem.head _ | apply List.Mem.tail))) ?_
              exact again b5 trivial trivial (by repeat (first | exact trivial | refine ⟨rfl, ?_⟩ | refine ⟨i64_eq (by first | omega | (simp only; omega)), ?_⟩ | refine ⟨u64_eq (by first | omega | (simp only; omega)), ?_⟩)) (Seals.trans (Seals.box (d := zd (g i)) 0 rfl h5 rfl) (Seals.trans (Seals.drop 0 _ _) (Seals.sub (by repeat (first | exact Sub.nil _ | refine Sub.cons (by repeat (first | exact List.Mem.head _ | apply List.Mem.tail)) ?_)))))
            · refine ord_go [0, 1, 2, 3, 4, 12, 5, 11, 6, 7, 8, 9, 10, 13, 14, 15] (by kernel_rfl) (by kernel_rfl) ?_
              refine index_fact (by repeat (first | exact List.Mem.head _ | apply List.Mem.tail)) i rfl hin fun b1 => ?_
              refine load_fact (d := J (p.getD i z0)) (by repeat (first | exact List.Mem.head _ | apply List.Mem.tail)) (load_J _) fun y1 => ?_
              refine alloc_rule (d := I false []) fun b6 h6 => ?_
              refine call_fn (ct) (Seals.refl _ _) (by repeat (first | exact Sub.nil _ | refine Sub.cons (by repeat (first | exact List.Mem.head _ | apply List.Mem.tail)) ?_)) ?_
              rintro y2 _ _ ⟨rfl, rfl⟩
              refine alloc_rule (d := I false []) fun b5 h5 => ?_
              refine call_fn (hdv y1 y2) (Seals.refl _ _) (by repeat (first | exact Sub.nil _ | refine Sub.cons (by repeat (first | exact List.Mem.head _ | apply List.Mem.tail)) ?_)) ?_
              rintro _ _ _ ⟨rfl, y3, y4, rfl, rfl⟩
              refine store_box (d := zd (g i)) 0 rfl h5 rfl (by kernel_rfl) (Reads.fact (by repeat (first | exact List.Mem.head _ | apply List.Mem.tail))) ?_
              refine store_box (d := zd m) 1 rfl h6 rfl (by kernel_rfl) (Reads.fact (by repeat (first | exact List.Mem.head _ | apply List.Mem.tail))) ?_
              exact again b5 trivial trivial (by repeat (first | exact trivial | refine ⟨rfl, ?_⟩ | refine ⟨i64_eq (by first | omega | (simp only; omega)), ?_⟩ | refine ⟨u64_eq (by first | omega | (simp only; omega)), ?_⟩)) (Seals.trans (Seals.box (d := zd (g i)) 0 rfl h5 rfl) (Seals.trans (Seals.drop 0 _ _) (Seals.sub (by repeat (first | exact Sub.nil _ | refine Sub.cons (by repeat (first | exact List.Mem.head _ | apply List.Mem.tail)) ?_)))))
        · refine ord_split 5 12 (by kernel_rfl) (by kernel_rfl) (by kernel_rfl) ?_ ?_
          · refine ord_split 6 12 (by kernel_rfl) (by kernel_rfl) (by kernel_rfl) ?_ ?_
            · refine ord_go [0, 1, 2, 3, 4, 11, 5, 6, 7, 8, 9, 10, 12, 13, 14, 15] (by kernel_rfl) (by kernel_rfl) ?_
              refine index_fact (by repeat (first | exact List.Mem.head _ | apply List.Mem.tail)) i rfl hin fun b1 => ?_
              refine load_fact (d := J (p.getD i z0)) (by repeat (first | exact List.Mem.head _ | apply List.Mem.tail)) (load_J _) fun y1 => ?_
              refine alloc_rule (d := I false []) fun b5 h5 => ?_
              refine call_fn (ct) (Seals.refl _ _) (by repeat (first | exact Sub.nil _ | refine Sub.cons (by repeat (first | exact List.Mem.head _ | apply List.Mem.tail)) ?_)) ?_
              rintro y2 _ _ ⟨rfl, rfl⟩
              refine call_fn (hdv y1 y2) (Seals.refl _ _) (by repeat (first | exact Sub.nil _ | refine Sub.cons (by repeat (first | exact List.Mem.head _ | apply List.Mem.tail)) ?_)) ?_
              rintro _ _ _ ⟨rfl, y3, y4, rfl, rfl⟩
              refine alloc_rule (d := I false []) fun b6 h6 => ?_
              refine store_box (d := zd (g i)) 1 rfl h5 rfl (by kernel_rfl) (Reads.fact (by repeat (first | exact List.Mem.head _ | apply List.Mem.tail))) ?_
              refine store_box (d := zd m) 0 rfl h6 rfl (by kernel_rfl) (Reads.fact (by repeat (first | exact List.Mem.head _ | apply List.Mem.tail))) ?_
              exact again b5 trivial trivial (by repeat (first | exact trivial | refine ⟨rfl, ?_⟩ | refine ⟨i64_eq (by first | omega | (simp only; omega)), ?_⟩ | refine ⟨u64_eq (by first | omega | (simp only; omega)), ?_⟩)) (Seals.trans (Seals.drop 0 _ _) (Seals.trans (Seals.box (d := zd (g i)) 0 rfl h5 rfl) (Seals.sub (by repeat (first | exact Sub.nil _ | refine Sub.cons (by repeat (first | exact List.Mem.head _ | apply List.Mem.tail)) ?_)))))
            · refine ord_go [0, 1, 2, 3, 4, 11, 5, 12, 6, 7, 8, 9, 10, 13, 14, 15] (by kernel_rfl) (by kernel_rfl) ?_
              refine index_fact (by repeat (first | exact List.Mem.head _ | apply List.Mem.tail)) i rfl hin fun b1 => ?_
              refine load_fact (d := J (p.getD i z0)) (by repeat (first | exact List.Mem.head _ | apply List.Mem.tail)) (load_J _) fun y1 => ?_
              refine alloc_rule (d := I false []) fun b5 h5 => ?_
              refine call_fn (ct) (Seals.refl _ _) (by repeat (first | exact Sub.nil _ | refine Sub.cons (by repeat (first | exact List.Mem.head _ | apply List.Mem.tail)) ?_)) ?_
              rintro y2 _ _ ⟨rfl, rfl⟩
              refine alloc_rule (d := I false []) fun b6 h6 => ?_
              refine call_fn (hdv y1 y2) (Seals.refl _ _) (by repeat (first | exact Sub.nil _ | refine Sub.cons (by repeat (first | exact List.Mem.head _ | apply List.Mem.tail)) ?_)) ?_
              rintro _ _ _ ⟨rfl, y3, y4, rfl, rfl⟩
              refine store_box (d := zd (g i)) 1 rfl h5 rfl (by kernel_rfl) (Reads.fact (by repeat (first | exact List.Mem.head _ | apply List.Mem.tail))) ?_
              refine store_box (d := zd m) 0 rfl h6 rfl (by kernel_rfl) (Reads.fact (by repeat (first | exact List.Mem.head _ | apply List.Mem.tail))) ?_
              exact again b5 trivial trivial (by repeat (first | exact trivial | refine ⟨rfl, ?_⟩ | refine ⟨i64_eq (by first | omega | (simp only; omega)), ?_⟩ | refine ⟨u64_eq (by first | omega | (simp only; omega)), ?_⟩)) (Seals.trans (Seals.drop 0 _ _) (Seals.trans (Seals.box (d := zd (g i)) 0 rfl h5 rfl) (Seals.sub (by repeat (first | exact Sub.nil _ | refine Sub.cons (by repeat (first | exact List.Mem.head _ | apply List.Mem.tail)) ?_)))))
          · refine ord_split 11 12 (by kernel_rfl) (by kernel_rfl) (by kernel_rfl) ?_ ?_
            · refine ord_go [0, 1, 2, 3, 4, 11, 12, 5, 6, 7, 8, 9, 10, 13, 14, 15] (by kernel_rfl) (by kernel_rfl) ?_
              refine index_fact (by repeat (first | exact List.Mem.head _ | apply List.Mem.tail)) i rfl hin fun b1 => ?_
              refine load_fact (d := J (p.getD i z0)) (by repeat (first | exact List.Mem.head _ | apply List.Mem.tail)) (load_J _) fun y1 => ?_
              refine alloc_rule (d := I false []) fun b5 h5 => ?_
              refine alloc_rule (d := I false []) fun b6 h6 => ?_
              refine call_fn (ct) (Seals.refl _ _) (by repeat (first | exact Sub.nil _ | refine Sub.cons (by repeat (first | exact List.Mem.head _ | apply List.Mem.tail)) ?_)) ?_
              rintro y2 _ _ ⟨rfl, rfl⟩
              refine call_fn (hdv y1 y2) (Seals.refl _ _) (by repeat (first | exact Sub.nil _ | refine Sub.cons (by repeat (first | exact List.Mem.head _ | apply List.Mem.tail)) ?_)) ?_
              rintro _ _ _ ⟨rfl, y3, y4, rfl, rfl⟩
              refine store_box (d := zd (g i)) 1 rfl h5 rfl (by kernel_rfl) (Reads.fact (by repeat (first | exact List.Mem.head _ | apply List.Mem.tail))) ?_
              refine store_box (d := zd m) 0 rfl h6 rfl (by kernel_rfl) (Reads.fact (by repeat (first | exact List.Mem.head _ | apply List.Mem.tail))) ?_
              exact again b5 trivial trivial (by repeat (first | exact trivial | refine ⟨rfl, ?_⟩ | refine ⟨i64_eq (by first | omega | (simp only; omega)), ?_⟩ | refine ⟨u64_eq (by first | omega | (simp only; omega)), ?_⟩)) (Seals.trans (Seals.drop 0 _ _) (Seals.trans (Seals.box (d := zd (g i)) 0 rfl h5 rfl) (Seals.sub (by repeat (first | exact Sub.nil _ | refine Sub.cons (by repeat (first | exact List.Mem.head _ | apply List.Mem.tail)) ?_)))))
            · refine ord_go [0, 1, 2, 3, 4, 12, 11, 5, 6, 7, 8, 9, 10, 13, 14, 15] (by kernel_rfl) (by kernel_rfl) ?_
              refine index_fact (by repeat (first | exact List.Mem.head _ | apply List.Mem.tail)) i rfl hin fun b1 => ?_
              refine load_fact (d := J (p.getD i z0)) (by repeat (first | exact List.Mem.head _ | apply List.Mem.tail)) (load_J _) fun y1 => ?_
              refine alloc_rule (d := I false []) fun b6 h6 => ?_
              refine alloc_rule (d := I false []) fun b5 h5 => ?_
              refine call_fn (ct) (Seals.refl _ _) (by repeat (first | exact Sub.nil _ | refine Sub.cons (by repeat (first | exact List.Mem.head _ | apply List.Mem.tail)) ?_)) ?_
              rintro y2 _ _ ⟨rfl, rfl⟩
              refine call_fn (hdv y1 y2) (Seals.refl _ _) (by repeat (first | exact Sub.nil _ | refine Sub.cons (by repeat (first | exact List.Mem.head _ | apply List.Mem.tail)) ?_)) ?_
              rintro _ _ _ ⟨rfl, y3, y4, rfl, rfl⟩
              refine store_box (d := zd (g i)) 0 rfl h5 rfl (by kernel_rfl) (Reads.fact (by repeat (first | exact List.Mem.head _ | apply List.Mem.tail))) ?_
              refine store_box (d := zd m) 1 rfl h6 rfl (by kernel_rfl) (Reads.fact (by repeat (first | exact List.Mem.head _ | apply List.Mem.tail))) ?_
              exact again b5 trivial trivial (by repeat (first | exact trivial | refine ⟨rfl, ?_⟩ | refine ⟨i64_eq (by first | omega | (simp only; omega)), ?_⟩ | refine ⟨u64_eq (by first | omega | (simp only; omega)), ?_⟩)) (Seals.trans (Seals.box (d := zd (g i)) 0 rfl h5 rfl) (Seals.trans (Seals.drop 0 _ _) (Seals.sub (by repeat (first | exact Sub.nil _ | refine Sub.cons (by repeat (first | exact List.Mem.head _ | apply List.Mem.tail)) ?_)))))
      · rintro b5 _
        simp only
        refine load_fact (d := zd (g i)) (by repeat (first | exact List.Mem.head _ | apply List.Mem.tail)) (load_I _ _) fun y3 => ?_
        refine lit_L (size := 2) (f := J) (z := z0) (e := 30) (cn (g i)) (by decide) (Reads.fact (by repeat (first | exact List.Mem.head _ | apply List.Mem.tail))) rfl fun y4 => ?_
        refine append_L (size := 2) (e := 30) (f := J) (z := z0) (l := (lst i g).map cn) (m := [cn (g i)]) 0 rfl hvo (Knw.fact (by repeat (first | exact List.Mem.head _ | apply List.Mem.tail))) (by simp only [List.length_map, hll, List.length_cons, List.length_nil]; omega) (by simp only [List.length_map, hll, List.length_cons, List.length_nil]; omega) fun vn hvn => ?_
        refine ar rfl (by first | exact ⟨by omega, by omega⟩ | (simp only [inK]; omega)) ?_
        refine again (vn, i + 1) ⟨hvn, by simp only; omega⟩ (by simp only; omega) (by repeat (first | exact trivial | refine ⟨rfl, ?_⟩ | refine ⟨i64_eq (by first | omega | (simp only; omega)), ?_⟩ | refine ⟨u64_eq (by first | omega | (simp only; omega)), ?_⟩)) ?_
        rw [show (lst i g).map cn ++ [cn (g i)] = (lst (i + 1) g).map cn by rw [lst_snoc, List.map_append]; rfl]
        exact Seals.sub (by repeat (first | exact Sub.nil _ | refine Sub.cons (by repeat (first | exact List.Mem.head _ | apply List.Mem.tail)) ?_))
    · have hii : i = n := by omega
      subst hii
      refine call_fn (l1) (Seals.refl _ _) (by repeat (first | exact Sub.nil _ | refine Sub.cons (by repeat (first | exact List.Mem.head _ | apply List.Mem.tail)) ?_)) ?_
      rintro z1 _ _ ⟨rfl, rfl⟩
      refine call_fn (hsg z1) (Seals.refl _ _) (by repeat (first | exact Sub.nil _ | refine Sub.cons (by repeat (first | exact List.Mem.head _ | apply List.Mem.tail)) ?_)) ?_
      rintro _ _ _ ⟨rfl, rfl, rfl⟩
      refine cmp_split _ rfl (fun hz => ?_) (fun hz => ?_)
      · have e := e1 (sign_lt.1 hz)
        have ht := fun u => rTimes_meets vo u ((lst i g).map cn) (-1) k hsz.fit ((sz_one _ (by decide)).mono h1k) (by omega) (by rw [List.length_map]; omega)
        rw [vv_cn, e] at ht
        refine call_fn (rOf_meets (-1) (by decide) (by decide)) (Seals.refl _ _) (by repeat (first | exact Sub.nil _ | refine Sub.cons (by repeat (first | exact List.Mem.head _ | apply List.Mem.tail)) ?_)) ?_
        rintro z2 _ _ ⟨rfl, rfl⟩
        refine call_fn (ht z2) (Seals.toldL hvo) (by repeat (first | exact Sub.nil _ | refine Sub.cons (by repeat (first | exact List.Mem.head _ | apply List.Mem.tail)) ?_)) ?_
        rintro r _ _ ⟨rfl, rfl⟩
        exact fin ⟨rfl, rfl⟩ (Seals.sub (by repeat (first | exact Sub.nil _ | refine Sub.cons (by repeat (first | exact List.Mem.head _ | apply List.Mem.tail)) ?_)))
      · have e := e2 (fun h => hz (sign_lt.2 h))
        have hn := rNormT vo (lst i g) (hsz.mono (by omega)) (by omega)
        rw [e] at hn
        refine call_fn hn (Seals.toldL hvo) (by repeat (first | exact Sub.nil _ | refine Sub.cons (by repeat (first | exact List.Mem.head _ | apply List.Mem.tail)) ?_)) ?_
        rintro r _ _ ⟨rfl, rfl⟩
        exact fin ⟨rfl, rfl⟩ (Seals.sub (by repeat (first | exact Sub.nil _ | refine Sub.cons (by repeat (first | exact List.Mem.head _ | apply List.Mem.tail)) ?_)))
theorem rPrimitiveT (v : Value) (p : List Int) (k : Nat) (hp : szR k p) (h1k : 1 ≤ k) (hk : k ≤ 34359738368) (lp : p.length ≤ 536870912) :
    Meets Tryz.prog 12 [v] [(v, vd p)] (fun r os fs => os = [] ∧ fs = [(r, vd (pprim p))]) := by
  have h := rPrimitive_meets v (p.map cn) k hp.fit h1k hk (by rw [List.length_map]; exact lp)
  rw [vv_cn] at h
  exact h
end Go.Proofs.YtdnjahdppgjmlaaGreat

namespace Go.Proofs.YtdnjahdppgjmlaaGreat
open Go.RowKit
theorem rRestT (v w : Value) (p q : List Int) (k l : Nat) (hp : szR k p) (hq : szR l q) (h1l : 1 ≤ l) (hlk : l ≤ k) (lp : p.length ≤ 1048576) (lq : q.length ≤ 1048576) (hk : 4 * pks (rks k l p.length) l (p.length + 2) ≤ 34359738368) :
    Meets Tryz.prog 67 [v, w] [(v, vd p), (w, vd q)] (fun r os fs => os = [] ∧ ∃ a b T R, (if dg q = 0 then r = .tuple #[a, b, .int .i64 2] ∧ T = [] ∧ R = [] else r = .tuple #[a, b, .int .i64 0] ∧ RestSpec p q T R ∧ szR (pks (rks k l p.length) l (p.length + 2)) T ∧ szR (pks (rks k l p.length) l (p.length + 2)) R ∧ T.length ≤ p.length ∧ R.length ≤ p.length) ∧ fs = [(a, vd T), (b, vd R)]) := by
  have h := rRest_meets v w (p.map cn) (q.map cn) k l hp.fit hq.fit h1l hlk (by rw [List.length_map]; exact lp) (by rw [List.length_map]; exact lq) (by rw [List.length_map]; exact hk)
  simp only [vv_cn, List.length_map] at h
  exact h
/-- How many limbs the document's Gcd may come to in j steps. -/
def ce (n e : Nat) : Nat → Nat
  | 0 => e
  | j + 1 => (2 * n + 4) * ce n e j + (3 * n + 6)
theorem ce_le (n e j : Nat) : e ≤ ce n e j := by
  induction j with
  | zero => exact Nat.le_refl _
  | succ j ih =>
    have : 1 * ce n e j ≤ (2 * n + 4) * ce n e j := Nat.mul_le_mul_right _ (by omega)
    show e ≤ (2 * n + 4) * ce n e j + (3 * n + 6)
    omega
theorem ce_shift (n e j : Nat) : ce n (ce n e 1) j = ce n e (j + 1) := by
  induction j with
  | zero => rfl
  | succ j ih => show (2 * n + 4) * ce n (ce n e 1) j + (3 * n + 6) = (2 * n + 4) * ce n e (j + 1) + (3 * n + 6); rw [ih]
theorem pks_ce (n e : Nat) : pks (rks e e n) e (n + 2) = ce n e 1 := by
  show pks (rks e e n) e (n + 2) = (2 * n + 4) * e + (3 * n + 6)
  unfold pks rks
  grind
theorem pks_le {m n e : Nat} (h : m ≤ n) : pks (rks e e m) e (m + 2) ≤ ce n e 1 := by
  rw [← pks_ce]
  have h1 : (m + 1) * (e + 1) ≤ (n + 1) * (e + 1) := Nat.mul_le_mul_right _ (by omega)
  have h2 : (m + 2) * (e + 2) ≤ (n + 2) * (e + 2) := Nat.mul_le_mul_right _ (by omega)
  unfold pks rks
  omega
/-- What common tells. -/
structure ComSpec (A B G : List Int) : Prop where
  gn : Nm G
  one : 0 < dg G → cont G = 1 ∧ 0 < ld G
  zero : dg G = 0 → dg A = 0 ∧ dg B = 0
  dv : ∀ h, cont h = 1 → (Dv h G ↔ Dv h A ∧ Dv h B)
theorem com_end {A B : List Int} (h0 : dg B = 0) : ComSpec A B (pprim A) :=
  ⟨pprim_nm _, fun h => by rw [pprim_dg] at h; exact ⟨pprim_cont h, pprim_ld h⟩, fun h => by rw [pprim_dg] at h; exact ⟨h, h0⟩,
    fun h hh => by rw [prim_dv hh]; exact ⟨fun k => ⟨k, Dv.zero _ (dg_zero.1 h0)⟩, fun k => k.1⟩⟩
theorem com_step {A B T R G : List Int} (h0 : 0 < dg B) (hs : RestSpec A B T R) (hG : ComSpec (pprim B) (pprim R) G) : ComSpec A B G :=
  ⟨hG.gn, hG.one, fun h => by have := (hG.zero h).1; rw [pprim_dg] at this; omega, fun h hh => by
    have hk0 : ld B ^ (dg A + 1 - dg B) ≠ 0 := by
      have h0 := ld_ne h0
      have : ∀ m : Nat, ld B ^ m ≠ 0 := fun m => by
        induction m with
        | zero => rw [Int.pow_zero]; omega
        | succ m ih => rw [Int.pow_succ]; exact Int.mul_ne_zero ih h0
      exact this _
    rw [hG.dv h hh, gcd_step hh hk0 hs.eq, prim_dv hh]⟩
theorem rCommon_meets (n : Nat) (hn : n ≤ 1048576) (m : Nat) : ∀ (v w : Value) (A B : List Int) (e : Nat), dg B ≤ m → szR e A → szR e B → 1 ≤ e → A.length ≤ n → B.length ≤ n → 4 * ce n e m ≤ 34359738368 →
    Meets Tryz.prog 41 [v, w] [(v, vd A), (w, vd B)] (fun r os fs => os = [] ∧ ∃ G, ComSpec A B G ∧ szR (ce n e m) G ∧ G.length ≤ n ∧ fs = [(r, vd G)]) := by
  induction m with
  | zero =>
    intro v w A B e hm sA sB h1 lA lB hk
    have hce := ce_le n e 0
    have hz : dg B = 0 := by omega
    refine meets_of_vc Tryz.func41 (by kernel_rfl) rfl (by kernel_rfl) (Nat.le_of_ble_eq_true rfl) ?_
    refine call_fn (rDegreeT w B sB (by omega)) (Seals.refl _ _) (by repeat (first | exact Sub.nil _ | refine Sub.cons (by repeat (first | exact List.Mem.head _ | apply List.Mem.tail)) ?_)) ?_
    rintro _ _ _ ⟨rfl, rfl, rfl⟩
    refine cmp_true rfl (by omega) ?_
    refine call_fn (rPrimitiveT v A e sA h1 (by omega) (by omega)) (Seals.refl _ _) (by repeat (first | exact Sub.nil _ | refine Sub.cons (by repeat (first | exact List.Mem.head _ | apply List.Mem.tail)) ?_)) ?_
    rintro y1 _ _ ⟨rfl, rfl⟩
    exact fin ⟨rfl, _, com_end hz, sA.pprim.mono hce, Nat.le_trans (pprim_len _) (Nat.le_trans (dg_le_len _) lA), rfl⟩ (Seals.sub (by repeat (first | exact Sub.nil _ | refine Sub.cons (by repeat (first | exact List.Mem.head _ | apply List.Mem.tail)) ?_)))
  | succ m ih =>
    intro v w A B e hm sA sB h1 lA lB hk
    have hce := ce_le n e (m + 1)
    refine meets_of_vc Tryz.func41 (by kernel_rfl) rfl (by kernel_rfl) (Nat.le_of_ble_eq_true rfl) ?_
    refine call_fn (rDegreeT w B sB (by omega)) (Seals.refl _ _) (by repeat (first | exact Sub.nil _ | refine Sub.cons (by repeat (first | exact List.Mem.head _ | apply List.Mem.tail)) ?_)) ?_
    rintro _ _ _ ⟨rfl, rfl, rfl⟩
    by_cases hz : dg B = 0
    · refine cmp_true rfl (by omega) ?_
      refine call_fn (rPrimitiveT v A e sA h1 (by omega) (by omega)) (Seals.refl _ _) (by repeat (first | exact Sub.nil _ | refine Sub.cons (by repeat (first | exact List.Mem.head _ | apply List.Mem.tail)) ?_)) ?_
      rintro y1 _ _ ⟨rfl, rfl⟩
      exact fin ⟨rfl, _, com_end hz, sA.pprim.mono hce, Nat.le_trans (pprim_len _) (Nat.le_trans (dg_le_len _) lA), rfl⟩ (Seals.sub (by repeat (first | exact Sub.nil _ | refine Sub.cons (by repeat (first | exact List.Mem.head _ | apply List.Mem.tail)) ?_)))
    have hb0 : 0 < dg B := by omega
    refine cmp_false rfl (by omega) ?_
    have hpl := pks_le (e := e) lA
    have hc1 := ce_le n (ce n e 1) m
    rw [ce_shift] at hc1
    have he1 := ce_le n e 1
    have hrs := rRestT v w A B e e sA sB h1 (Nat.le_refl _) (by omega) (by omega) (by omega)
    simp only [if_neg hz] at hrs
    refine call_fn hrs (Seals.refl _ _) (by repeat (first | exact Sub.nil _ | refine Sub.cons (by repeat (first | exact List.Mem.head _ | apply List.Mem.tail)) ?_)) ?_
    rintro _ _ _ ⟨rfl, a, b, T, R, ⟨rfl, hsp, sT, sR, lT, lR⟩, rfl⟩
    have hlow := hsp.low
    have hcs := fun G => com_step (G := G) hb0 hsp
    have ihh := fun u u' => ih u u' (pprim B) (pprim R) (ce n e 1) (by rw [pprim_dg]; omega) (sB.pprim.mono he1) (sR.pprim.mono hpl) (by omega) (Nat.le_trans (pprim_len _) (Nat.le_trans (dg_le_len _) lB)) (Nat.le_trans (pprim_len _) (Nat.le_trans (dg_le_len _) (by omega))) (by rw [ce_shift]; exact hk)
    rw [ce_shift] at ihh
    refine call_fn (rPrimitiveT w B e sB h1 (by omega) (by omega)) (Seals.refl _ _) (by repeat (first | exact Sub.nil _ | refine Sub.cons (by repeat (first | exact List.Mem.head _ | apply List.Mem.tail)) ?_)) ?_
    rintro y1 _ _ ⟨rfl, rfl⟩
    refine call_fn (rPrimitiveT b R (ce n e 1) (sR.mono hpl) (by omega) (by omega) (by omega)) (Seals.refl _ _) (by repeat (first | exact Sub.nil _ | refine Sub.cons (by repeat (first | exact List.Mem.head _ | apply List.Mem.tail)) ?_)) ?_
    rintro y2 _ _ ⟨rfl, rfl⟩
    refine call_fn (ihh y1 y2) (Seals.refl _ _) (by repeat (first | exact Sub.nil _ | refine Sub.cons (by repeat (first | exact List.Mem.head _ | apply List.Mem.tail)) ?_)) ?_
    rintro y3 _ _ ⟨rfl, G, hG, sG, lG, rfl⟩
    exact fin ⟨rfl, G, hcs G hG, sG, lG, rfl⟩ (Seals.sub (by repeat (first | exact Sub.nil _ | refine Sub.cons (by repeat (first | exact List.Mem.head _ | apply List.Mem.tail)) ?_)))
theorem rGcdP_meets (v w : Value) (p q : Row) (k n : Nat) (hp : Fit k p) (hq : Fit k q) (h1k : 1 ≤ k) (lp : p.length ≤ n) (lq : q.length ≤ n) (hn : n ≤ 1048576) (hk : 4 * ce n k n ≤ 34359738368) :
    Meets Tryz.prog 14 [v, w] [(v, V p), (w, V q)] (fun r os fs => os = [] ∧ ∃ G, Nm G ∧ Gc G (vv p) (vv q) ∧ fs = [(r, vd G)]) := by
  have hge := ce_le n k n
  have hcs1 : sz (cont (vv p) : Nat) k := cont_sz hp.szR
  have hcs2 : sz (cont (vv q) : Nat) k := cont_sz hq.szR
  have dP : dg (vv p) ≤ n := Nat.le_trans (dg_le_len _) (by rw [vv_len]; exact lp)
  have dQ : dg (vv q) ≤ n := Nat.le_trans (dg_le_len _) (by rw [vv_len]; exact lq)
  have hcg : sz ((Nat.gcd (cont (vv p)) (cont (vv q)) : Nat) : Int) k := by
    by_cases e : cont (vv p) = 0
    · rw [e, Nat.gcd_zero_left]; exact hcs2
    · unfold sz at hcs1 ⊢
      rw [Int.natAbs_natCast] at hcs1 ⊢
      exact Nat.lt_of_le_of_lt (Nat.gcd_le_left _ (Nat.pos_of_ne_zero e)) hcs1
  have hgc := fun u u' => rGcdZ u u' _ _ k k hcs1 hcs2 (by omega) (by omega)
  simp only [Int.natAbs_natCast] at hgc
  have hcm := fun u u' => rCommon_meets n hn n u u' (pprim (vv p)) (pprim (vv q)) k (by rw [pprim_dg]; exact dQ) hp.szR.pprim hq.szR.pprim h1k (Nat.le_trans (pprim_len _) dP) (Nat.le_trans (pprim_len _) dQ) hk
  have hend : ∀ G, ComSpec (pprim (vv p)) (pprim (vv q)) G → Gc (ptim (Nat.gcd (cont (vv p)) (cont (vv q)) : Nat) G) (vv p) (vv q) := fun G hG => gcd_end hG.one (fun h => by have := hG.zero h; rw [pprim_dg, pprim_dg] at this; exact this) hG.dv
  have h1 := rPrimitive_meets v p k hp h1k (by omega) (by omega)
  have h2 := rPrimitive_meets w q k hq h1k (by omega) (by omega)
  have h3 := rContent_meets v p k hp (by omega) (by omega)
  have h4 := rContent_meets w q k hq (by omega) (by omega)
  generalize Nat.gcd (cont (vv p)) (cont (vv q)) = g at *
  refine meets_of_vc Tryz.func14 (by kernel_rfl) rfl (by kernel_rfl) (Nat.le_of_ble_eq_true rfl) ?_
  refine call_fn (h1) (Seals.refl _ _) (by repeat (first | exact Sub.nil _ | refine Sub.cons (by repeat (first | exact List.Mem.head _ | apply List.Mem.tail)) ?_)) ?_
  rintro x1 _ _ ⟨rfl, rfl⟩
  refine call_fn (h2) (Seals.refl _ _) (by repeat (first | exact Sub.nil _ | refine Sub.cons (by repeat (first | exact List.Mem.head _ | apply List.Mem.tail)) ?_)) ?_
  rintro x2 _ _ ⟨rfl, rfl⟩
  refine call_fn (hcm x1 x2) (Seals.refl _ _) (by repeat (first | exact Sub.nil _ | refine Sub.cons (by repeat (first | exact List.Mem.head _ | apply List.Mem.tail)) ?_)) ?_
  rintro x3 _ _ ⟨rfl, G, hG, sG, lG, rfl⟩
  refine call_fn (h3) (Seals.refl _ _) (by repeat (first | exact Sub.nil _ | refine Sub.cons (by repeat (first | exact List.Mem.head _ | apply List.Mem.tail)) ?_)) ?_
  rintro x4 _ _ ⟨rfl, rfl⟩
  refine call_fn (h4) (Seals.refl _ _) (by repeat (first | exact Sub.nil _ | refine Sub.cons (by repeat (first | exact List.Mem.head _ | apply List.Mem.tail)) ?_)) ?_
  rintro x5 _ _ ⟨rfl, rfl⟩
  refine call_fn (hgc x4 x5) (Seals.refl _ _) (by repeat (first | exact Sub.nil _ | refine Sub.cons (by repeat (first | exact List.Mem.head _ | apply List.Mem.tail)) ?_)) ?_
  rintro x6 _ _ ⟨rfl, rfl⟩
  have ht := rTimes_meets x3 x6 (G.map cn) (g : Nat) (ce n k n) sG.fit (hcg.mono hge) (by omega) (by rw [List.length_map]; omega)
  rw [vv_cn] at ht
  refine call_fn (ht) (Seals.refl _ _) (by repeat (first | exact Sub.nil _ | refine Sub.cons (by repeat (first | exact List.Mem.head _ | apply List.Mem.tail)) ?_)) ?_
  rintro x7 _ _ ⟨rfl, rfl⟩
  exact fin ⟨rfl, _, ptim_nm _ _, hend G hG, rfl⟩ (Seals.sub (by repeat (first | exact Sub.nil _ | refine Sub.cons (by repeat (first | exact List.Mem.head _ | apply List.Mem.tail)) ?_)))
theorem rSimple_meets (v : Value) (p : Row) (k n : Nat) (hp : Fit k p) (h1k : 1 ≤ k) (lp : p.length ≤ n) (hn : n ≤ 1000000) (hk : 4 * ce n (k + 1) n ≤ 34359738368) (hd : 2 * pks (dvk (k + 1) n) (dvk (k + 1) n) (n + 2) ≤ 34359738368) :
    Meets Tryz.prog 16 [v] [(v, V p)] (fun r os fs => os = [] ∧ ∃ s, SimSpec (vv p) s ∧ szR (dvk k n) s ∧ fs = [(r, vd s)]) := by
  have hge := ce_le n (k + 1) n
  have h1 := rPrimitive_meets v p k hp h1k (by omega) (by omega)
  have sU := hp.szR.pprim
  have lU : (pprim (vv p)).length ≤ n := Nat.le_trans (pprim_len _) (Nat.le_trans (dg_le_len _) (by rw [vv_len]; exact lp))
  have nU := pprim_nm (vv p)
  have dU := pprim_dg (vv p)
  have hspec : ∀ s g, Nm s → 0 < dg (vv p) → Gc g (pprim (vv p)) (pder (pprim (vv p))) → (∀ x, pev (pprim (vv p)) x = pev g x * pev s x) → SimSpec (vv p) s := fun s g a1 a2 a3 a4 => ⟨a1, fun h => by omega, fun _ => ⟨g, a3, a4⟩⟩
  have hzero : dg (vv p) = 0 → SimSpec (vv p) [] := fun h => ⟨rfl, fun _ => rfl, fun h' => by omega⟩
  rw [dg_nm nU] at dU
  generalize hU : pprim (vv p) = u at *
  have sD := sU.pder (by omega)
  have lD := pder_len u
  have hdk : k ≤ dvk (k + 1) n := by unfold dvk; omega
  have hd1 : 1 ≤ dvk (k + 1) n := by omega
  have hpm := pks_mono (dvk (k + 1) n) (dvk (k + 1) n) (show u.length + 2 ≤ n + 2 by omega)
  have hde := fun x => rDerive_meets x (u.map cn) k sU.fit (by omega) (by rw [List.length_map]; omega)
  have hgc := fun x y => rGcdP_meets x y (u.map cn) ((pder u).map cn) (k + 1) n (sU.mono (by omega)).fit sD.fit (by omega) (by rw [List.length_map]; exact lU) (by rw [List.length_map]; omega) (by omega) hk
  simp only [vv_cn] at hde hgc
  refine meets_of_vc Tryz.func16 (by kernel_rfl) rfl (by kernel_rfl) (Nat.le_of_ble_eq_true rfl) ?_
  refine call_fn (h1) (Seals.refl _ _) (by repeat (first | exact Sub.nil _ | refine Sub.cons (by repeat (first | exact List.Mem.head _ | apply List.Mem.tail)) ?_)) ?_
  rintro x1 _ _ ⟨rfl, rfl⟩
  refine call_fn (rDegreeT x1 u sU (by omega)) (Seals.refl _ _) (by repeat (first | exact Sub.nil _ | refine Sub.cons (by repeat (first | exact List.Mem.head _ | apply List.Mem.tail)) ?_)) ?_
  rintro _ _ _ ⟨rfl, rfl, rfl⟩
  refine cmp_split _ rfl (fun hz => ?_) (fun hz => ?_)
  · have hu : u = [] := List.length_eq_zero_iff.1 (by rw [← dg_nm nU]; omega)
    subst hu
    exact fin ⟨rfl, [], hzero dU.symm, fun x hx => by simp at hx, rfl⟩ (Seals.sub (by repeat (first | exact Sub.nil _ | refine Sub.cons (by repeat (first | exact List.Mem.head _ | apply List.Mem.tail)) ?_)))
  · have hu0 : 0 < dg u := by omega
    refine call_fn (hde x1) (Seals.refl _ _) (by repeat (first | exact Sub.nil _ | refine Sub.cons (by repeat (first | exact List.Mem.head _ | apply List.Mem.tail)) ?_)) ?_
    rintro x2 _ _ ⟨rfl, rfl⟩
    refine call_fn (hgc x1 x2) (Seals.refl _ _) (by repeat (first | exact Sub.nil _ | refine Sub.cons (by repeat (first | exact List.Mem.head _ | apply List.Mem.tail)) ?_)) ?_
    rintro x3 _ _ ⟨rfl, G, nG, gG, rfl⟩
    have hGd := gG.1.deg hu0
    have sG : szR (dvk (k + 1) n) G := dv_szR gG.1 hu0 (sU.mono (by omega)) nG (by rw [dg_nm nU]; exact lU) (by omega)
    have lG : G.length ≤ n := by rw [← dg_nm nG]; rw [dg_nm nU] at hGd; omega
    have hdv := rDivide_meets x1 x3 (u.map cn) (G.map cn) (dvk (k + 1) n) (dvk (k + 1) n) (sU.mono hdk).fit sG.fit hd1 (Nat.le_refl _) (by rw [List.length_map]; omega) (by rw [List.length_map]; omega) (by rw [List.length_map]; omega)
    simp only [vv_cn] at hdv
    refine call_fn hdv (Seals.refl _ _) (by repeat (first | exact Sub.nil _ | refine Sub.cons (by repeat (first | exact List.Mem.head _ | apply List.Mem.tail)) ?_)) ?_
    rintro _ _ _ ⟨rfl, a, t, e, rfl, hsp, rfl⟩
    obtain ⟨_, ht⟩ := hsp.ok hGd.1 gG.1
    have hs := hspec t G hsp.tn (by rw [dg_nm nU] at hu0; omega) gG ht
    have st : szR (dvk k n) t := dv_szR ⟨G, fun x => by rw [ht, Int.mul_comm]⟩ hu0 sU hsp.tn (by rw [dg_nm nU]; exact lU) (by omega)
    exact fin ⟨rfl, t, hs, st, rfl⟩ (Seals.sub (by repeat (first | exact Sub.nil _ | refine Sub.cons (by repeat (first | exact List.Mem.head _ | apply List.Mem.tail)) ?_)))
end Go.Proofs.YtdnjahdppgjmlaaGreat

namespace Go.Proofs.YtdnjahdppgjmlaaGreat
open Go.RowKit
theorem common_walk (u v : Value) (p q : Row) (sp : smallR 7 1 p) (sq : smallR 7 1 q) (C : Int) (A : List Int) (GP : List Int → Prop) (SP : List Int → Prop)
    (hG : ∀ a b, GP a → GP b → a = b) (hS : ∀ a b, SP a → SP b → a = b)
    (c1 : ∀ x, Meets Tryz.prog 8 [x] [(x, V p)] (fun r os fs => os = [] ∧ fs = [(r, zd C)]))
    (c2 : Meets Tryz.prog 9 [u] [(u, V p)] (fun r os fs => os = [] ∧ fs = [(r, zd C)]))
    (a1 : ∀ x, Meets Tryz.prog 11 [x] [(x, V p)] (fun r os fs => os = [] ∧ fs = [(r, vd A)]))
    (a2 : Meets Tryz.prog 12 [u] [(u, V p)] (fun r os fs => os = [] ∧ fs = [(r, vd A)]))
    (g1 : ∀ x y, Meets Tryz.prog 13 [x, y] [(x, V p), (y, V q)] (fun r os fs => os = [] ∧ ∃ G, GP G ∧ fs = [(r, vd G)]))
    (g2 : Meets Tryz.prog 14 [u, v] [(u, V p), (v, V q)] (fun r os fs => os = [] ∧ ∃ G, GP G ∧ fs = [(r, vd G)]))
    (s1 : ∀ x, Meets Tryz.prog 15 [x] [(x, V p)] (fun r os fs => os = [] ∧ ∃ G, SP G ∧ fs = [(r, vd G)]))
    (s2 : Meets Tryz.prog 16 [u] [(u, V p)] (fun r os fs => os = [] ∧ ∃ G, SP G ∧ fs = [(r, vd G)])) :
    Meets Tryz.prog 3 [u, v] [(u, V p), (v, V q)] (fun r os fs => os = [] ∧ fs = [] ∧ r = .bool true) := by
  refine meets_of_vc Tryz.func3 (by kernel_rfl) rfl (by kernel_rfl) (Nat.le_of_ble_eq_true rfl) ?_
  refine call_fn shownP_meets (Seals.refl _ _) (by repeat (first | exact Sub.nil _ | refine Sub.cons (by repeat (first | exact List.Mem.head _ | apply List.Mem.tail)) ?_)) ?_
  rintro _ _ _ ⟨rfl, rfl, rfl⟩
  refine call_fn (littleY u p sp) (Seals.refl _ _) (by repeat (first | exact Sub.nil _ | refine Sub.cons (by repeat (first | exact List.Mem.head _ | apply List.Mem.tail)) ?_)) ?_
  rintro _ _ _ ⟨rfl, rfl, rfl⟩
  refine call_fn (littleY v q sq) (Seals.refl _ _) (by repeat (first | exact Sub.nil _ | refine Sub.cons (by repeat (first | exact List.Mem.head _ | apply List.Mem.tail)) ?_)) ?_
  rintro _ _ _ ⟨rfl, rfl, rfl⟩
  refine call_fn (rOwn_meets u p (by have := sp.1; omega) fun x hx => by have := sp.2 x hx; omega) (Seals.refl _ _) (by repeat (first | exact Sub.nil _ | refine Sub.cons (by repeat (first | exact List.Mem.head _ | apply List.Mem.tail)) ?_)) ?_
  rintro x _ _ ⟨rfl, hx, rfl⟩
  refine call_fn (rOwn_meets v q (by have := sq.1; omega) fun x hx => by have := sq.2 x hx; omega) (Seals.refl _ _) (by repeat (first | exact Sub.nil _ | refine Sub.cons (by repeat (first | exact List.Mem.head _ | apply List.Mem.tail)) ?_)) ?_
  rintro y _ _ ⟨rfl, hy, rfl⟩
  refine call_fn (c1 x) (Seals.trans (Seals.L 0 rfl hy) (Seals.L 0 rfl hx)) (by repeat (first | exact Sub.nil _ | refine Sub.cons (by repeat (first | exact List.Mem.head _ | apply List.Mem.tail)) ?_)) ?_
  rintro y1 _ _ ⟨rfl, rfl⟩
  refine call_fn (c2) (Seals.refl _ _) (by repeat (first | exact Sub.nil _ | refine Sub.cons (by repeat (first | exact List.Mem.head _ | apply List.Mem.tail)) ?_)) ?_
  rintro y2 _ _ ⟨rfl, rfl⟩
  refine call_fn (exactE y1 y2 _ _ (rfl)) (Seals.refl _ _) (by repeat (first | exact Sub.nil _ | refine Sub.cons (by repeat (first | exact List.Mem.head _ | apply List.Mem.tail)) ?_)) ?_
  rintro _ _ _ ⟨rfl, rfl, rfl⟩
  refine call_fn (a1 x) (Seals.refl _ _) (by repeat (first | exact Sub.nil _ | refine Sub.cons (by repeat (first | exact List.Mem.head _ | apply List.Mem.tail)) ?_)) ?_
  rintro y3 _ _ ⟨rfl, rfl⟩
  refine call_fn (a2) (Seals.refl _ _) (by repeat (first | exact Sub.nil _ | refine Sub.cons (by repeat (first | exact List.Mem.head _ | apply List.Mem.tail)) ?_)) ?_
  rintro y4 _ _ ⟨rfl, rfl⟩
  refine call_fn (sameT y3 y4 _ _ (rfl)) (Seals.refl _ _) (by repeat (first | exact Sub.nil _ | refine Sub.cons (by repeat (first | exact List.Mem.head _ | apply List.Mem.tail)) ?_)) ?_
  rintro _ _ _ ⟨rfl, rfl, rfl⟩
  refine call_fn (g1 x y) (Seals.refl _ _) (by repeat (first | exact Sub.nil _ | refine Sub.cons (by repeat (first | exact List.Mem.head _ | apply List.Mem.tail)) ?_)) ?_
  rintro y5 _ _ ⟨rfl, G, hG1, rfl⟩
  refine call_fn g2 (Seals.refl _ _) (by repeat (first | exact Sub.nil _ | refine Sub.cons (by repeat (first | exact List.Mem.head _ | apply List.Mem.tail)) ?_)) ?_
  rintro y6 _ _ ⟨rfl, G', hG2, rfl⟩
  obtain rfl := hG _ _ hG1 hG2
  refine call_fn (sameT y5 y6 _ _ (rfl)) (Seals.refl _ _) (by repeat (first | exact Sub.nil _ | refine Sub.cons (by repeat (first | exact List.Mem.head _ | apply List.Mem.tail)) ?_)) ?_
  rintro _ _ _ ⟨rfl, rfl, rfl⟩
  refine call_fn (s1 x) (Seals.refl _ _) (by repeat (first | exact Sub.nil _ | refine Sub.cons (by repeat (first | exact List.Mem.head _ | apply List.Mem.tail)) ?_)) ?_
  rintro y7 _ _ ⟨rfl, S, hS1, rfl⟩
  refine call_fn s2 (Seals.refl _ _) (by repeat (first | exact Sub.nil _ | refine Sub.cons (by repeat (first | exact List.Mem.head _ | apply List.Mem.tail)) ?_)) ?_
  rintro y8 _ _ ⟨rfl, S', hS2, rfl⟩
  obtain rfl := hS _ _ hS1 hS2
  refine call_fn (sameT y7 y8 _ _ (rfl)) (Seals.refl _ _) (by repeat (first | exact Sub.nil _ | refine Sub.cons (by repeat (first | exact List.Mem.head _ | apply List.Mem.tail)) ?_)) ?_
  rintro _ _ _ ⟨rfl, rfl, rfl⟩
  refine call_fn (sameV x u p) (Seals.refl _ _) (by repeat (first | exact Sub.nil _ | refine Sub.cons (by repeat (first | exact List.Mem.head _ | apply List.Mem.tail)) ?_)) ?_
  rintro _ _ _ ⟨rfl, rfl, rfl⟩
  refine call_fn (sameV y v q) (Seals.refl _ _) (by repeat (first | exact Sub.nil _ | refine Sub.cons (by repeat (first | exact List.Mem.head _ | apply List.Mem.tail)) ?_)) ?_
  rintro _ _ _ ⟨rfl, rfl, rfl⟩
  exact fin ⟨rfl, rfl, rfl⟩ (Seals.nil _ _)
theorem common_meets (u v : Value) (p q : Row) (hp : limR p) (hq : limR q) :
    Meets Tryz.prog 3 [u, v] [(u, V p), (v, V q)] (fun r os fs => os = [] ∧ fs = [] ∧ r = .bool true) := by
  by_cases sp : smallR 7 1 p
  case neg =>
    refine meets_of_vc Tryz.func3 (by kernel_rfl) rfl (by kernel_rfl) (Nat.le_of_ble_eq_true rfl) ?_
    refine call_fn shownP_meets (Seals.refl _ _) (by repeat (first | exact Sub.nil _ | refine Sub.cons (by repeat (first | exact List.Mem.head _ | apply List.Mem.tail)) ?_)) ?_
    rintro _ _ _ ⟨rfl, rfl, rfl⟩
    refine call_fn (littleN u p sp) (Seals.refl _ _) (by repeat (first | exact Sub.nil _ | refine Sub.cons (by repeat (first | exact List.Mem.head _ | apply List.Mem.tail)) ?_)) ?_
    rintro _ _ _ ⟨rfl, rfl, rfl⟩
    exact fin ⟨rfl, rfl, rfl⟩ (Seals.nil _ _)
  by_cases sq : smallR 7 1 q
  case neg =>
    refine meets_of_vc Tryz.func3 (by kernel_rfl) rfl (by kernel_rfl) (Nat.le_of_ble_eq_true rfl) ?_
    refine call_fn shownP_meets (Seals.refl _ _) (by repeat (first | exact Sub.nil _ | refine Sub.cons (by repeat (first | exact List.Mem.head _ | apply List.Mem.tail)) ?_)) ?_
    rintro _ _ _ ⟨rfl, rfl, rfl⟩
    refine call_fn (littleY u p sp) (Seals.refl _ _) (by repeat (first | exact Sub.nil _ | refine Sub.cons (by repeat (first | exact List.Mem.head _ | apply List.Mem.tail)) ?_)) ?_
    rintro _ _ _ ⟨rfl, rfl, rfl⟩
    refine call_fn (littleN v q sq) (Seals.refl _ _) (by repeat (first | exact Sub.nil _ | refine Sub.cons (by repeat (first | exact List.Mem.head _ | apply List.Mem.tail)) ?_)) ?_
    rintro _ _ _ ⟨rfl, rfl, rfl⟩
    exact fin ⟨rfl, rfl, rfl⟩ (Seals.nil _ _)
  have P := Lk.raw sp hp
  have Q := Lk.raw sq hq
  have lp := sp.1
  have lq := sq.1
  have fp := P.fit
  have fq := Q.fit
  refine common_walk u v p q sp sq (cont (vv p) : Nat) (pprim (vv p)) (fun G => Nm G ∧ Gc G (vv p) (vv q)) (SimSpec (vv p)) (fun a b ⟨h1, h2⟩ ⟨h3, h4⟩ => h1.ext h3 (h2.unique h4)) (fun a b h1 h2 => h1.unique h2)
    (fun x => xContent x P) (rContent_meets u p 1 fp (by decide) (by omega)) (fun x => xPrimitive x P) (rPrimitive_meets u p 1 fp (by decide) (by decide) (by omega)) (fun x y => ?_) ?_ (fun x => ?_) ?_
  · exact (xGcd x y P Q).mono fun r os fs ⟨k1, G, k2, k3, k4⟩ => ⟨k1, G, ⟨k2, k3⟩, k4⟩
  · exact (rGcdP_meets u v p q 1 7 fp fq (by decide) lp lq (by decide) (by decide)).mono fun r os fs ⟨k1, G, k2, k3, k4⟩ => ⟨k1, G, ⟨k2, k3⟩, k4⟩
  · exact (xSimple x P).mono fun r os fs ⟨k1, G, k2, _, k4⟩ => ⟨k1, G, k2, k4⟩
  · exact (rSimple_meets u p 1 7 fp (by decide) lp (by decide) (by decide) (by decide)).mono fun r os fs ⟨k1, G, k2, _, k4⟩ => ⟨k1, G, k2, k4⟩
end Go.Proofs.YtdnjahdppgjmlaaGreat

namespace Go.Proofs.YtdnjahdppgjmlaaGreat
open Go.ChangeShapes Go.WideShapes Go.ChangeAt Go.RowKit
open Go.Joins (open_agg2)
set_option maxRecDepth 100000 in
theorem polyzCommon_lifted (os : Os) (started : os.Started) (H : Type) (enc : TypeId × Value → H) :
    ReturnsInHanded {} Tryz.checked os 3 .any (Rows.polyzCommonSpec.pre6 enc Tryz.prog Tryz.f3 Rows.polyzCommonRow.domain false) (Rows.polyzCommonSpec.post enc Tryz.prog Tryz.f3 false true false false) := by
  refine returnsInHanded_of_change (C := Tryz.checked) own0 started (by kernel_rfl) Tryz.func3
    (ChangeSpec.witness6 (enc := enc) (C := Tryz.checked) false ⟨#[], #[.slice none 0 0, .slice none 0 0], []⟩ 8 (by kernel_rfl) (by kernel_rfl) (by kernel_rfl) (by kernel_rfl)) ?_
  intro Wd base args ds gs before hval0 hW hcnd _
  have hval : ∀ (j : Nat) t v, Tryz.f3.params[j]? = some t → args[j]? = some v → Value.okWide Tryz.prog Wd .any base t v := hval0
  have hW' := hW
  obtain ⟨p, q, hA0, hV, rfl, hfz, hnd⟩ := hW
  have hA : DataW.TrodAll enc Tryz.prog Wd 0 (fun _ => true) true Tryz.f3.params.toList args.toList ds p := hA0
  rw [Tryz.params3] at hA hval
  obtain ⟨v0, vs0, d0, ds0, p0, q0, hargs, rfl, rfl, h0, r0⟩ := trodAll_cons hA
  obtain ⟨v1, vs1, d1, ds1, p1, q1, rfl, rfl, rfl, h1, r1⟩ := trodAll_cons r0
  obtain ⟨rfl, rfl, rfl⟩ := trodAll_nil r1
  obtain rfl : args = #[v0, v1] := by cases args; simp_all
  obtain ⟨rfl, rfl⟩ := trodVars_none hV
  obtain ⟨a0, n0, c0, rfl⟩ := okWide_slice Tryz.underlying23 (hval 0 23 v0 rfl rfl)
  have k0 := h0
  have lt0 : ∀ x ∈ p0, x.block < Wd.heap.size := by obtain ⟨m, hm⟩ := k0; exact DataW.trod_lt m _ _ _ hm
  obtain ⟨m0, lm0, rd0⟩ : ∃ m, limR m ∧ Rd (fun b => b < Wd.heap.size) Wd (.slice a0 n0 c0) (V m) := by
    obtain ⟨fuel, hf⟩ := h0
    obtain ⟨m, e1, e2⟩ := rd_poly hf
    exact ⟨m, e1, rd_val rfl e2⟩
  obtain ⟨a1, n1, c1, rfl⟩ := okWide_slice Tryz.underlying23 (hval 1 23 v1 rfl rfl)
  have k1 := h1
  have lt1 : ∀ x ∈ p1, x.block < Wd.heap.size := by obtain ⟨m, hm⟩ := k1; exact DataW.trod_lt m _ _ _ hm
  obtain ⟨m1, lm1, rd1⟩ : ∃ m, limR m ∧ Rd (fun b => b < Wd.heap.size) Wd (.slice a1 n1 c1) (V m) := by
    obtain ⟨fuel, hf⟩ := h1
    obtain ⟨m, e1, e2⟩ := rd_poly hf
    exact ⟨m, e1, rd_val rfl e2⟩
  clear hA0 hval0
  refine (calls_of_meets (w := Wd) (common_meets (.slice a0 n0 c0) (.slice a1 n1 c1) m0 m1 lm0 lm1) ?_).mono fun e W2 ⟨he, bel⟩ => ?_
  · intro F hF
    simp only [List.mem_cons, List.not_mem_nil, or_false] at hF
    rcases hF with rfl | rfl
    · exact rd0
    · exact rd1
  subst he
  exact ⟨_, rfl, _, _, _, [], _, [], hW', trodAll_mk1 (shut_bool Tryz.underlying4 _), (trodAll_cons_mk (Below.trod laid0 (by kernel_rfl) (of_decide_eq_true (by kernel_rfl)) k0 bel lt0) (trodAll_cons_mk (Below.trod laid0 (by kernel_rfl) (of_decide_eq_true (by kernel_rfl)) k1 bel lt1) trodAll_mk0)), rfl, bel.frame _, fun h => by cases h⟩
theorem polyzCommon_holds : Rows.PolyzCommonSaid :=
  OpenClaim.holds_of_wide 3 Tryz.f3 rfl rfl rfl rfl rfl rfl rfl ⟨rfl, rfl, rfl, rfl, rfl⟩ rfl rfl rfl rfl rfl (by kernel_rfl) Tryz.func3 (by kernel_rfl)
    (of_decide_eq_true (by kernel_rfl)) (by unfold Func.isWrapper; first | (rw [if_pos (by decide +kernel)]; kernel_rfl) | (rw [if_neg (by decide +kernel)]; exact ⟨rfl, rfl⟩))
    (fun os started H enc _ => polyzCommon_lifted os started H enc)
#print axioms polyzCommon_holds
end Go.Proofs.YtdnjahdppgjmlaaGreat
