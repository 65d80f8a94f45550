/- The law PolyzParts is true of each input, and changes none. No condition. -/
import Derived.Test.YtdnjahdppgjmlaaM4
import Derived.Test.YtdnjahdppgjmlaaRows
import Derived.OpenShut
import Derived.Below
import Derived.Lib.SmallJoins
set_option linter.unusedVariables false
set_option linter.unusedSimpArgs false

namespace Go.Proofs.Ytdnjahdppgjmlaa
open Go.RowKit
theorem ld_none {l : List Int} (h : dg l = 0) : ld l = 0 := by unfold ld; rw [dg_le.1 (Nat.le_of_eq h) _ (Nat.zero_le _)]
theorem rLead_meets (v : Value) (p : Row) (hp : Fit 1099511627776 p) :
    Meets Try.prog 66 [v] [(v, V p)] (fun r os fs => os = [] ∧ fs = [(r, zd (ld (vv p)))]) := by
  have d1 := rDegreeN v p hp
  have hat := rAt_meets v p ((dg (vv p) : Nat) - 1 : Int) hp
  have e : (if ((dg (vv p) : Nat) - 1 : Int) < 0 then 0 else (vv p).getD ((dg (vv p) : Nat) - 1 : Int).toNat 0) = ld (vv p) := by
    by_cases h : dg (vv p) = 0
    · rw [if_pos (by omega), ld_none h]
    · rw [if_neg (by omega), show ((dg (vv p) : Nat) - 1 : Int).toNat = dg (vv p) - 1 by omega]; rfl
  rw [e] at hat
  generalize ld (vv p) = x at *
  refine meets_of_vc Try.func66 (by kernel_rfl) rfl (by kernel_rfl) (Nat.le_of_ble_eq_true rfl) ?_
  refine alloc_rule (d := I false []) fun o ho => ?_
  refine call_fn (d1) (Seals.refl _ _) (by repeat (first | exact Sub.nil _ | refine Sub.cons (by repeat (first | exact List.Mem.head _ | apply List.Mem.tail)) ?_)) ?_
  rintro _ _ _ ⟨rfl, rfl, rfl⟩
  refine call_fn (hat) (Seals.refl _ _) (by repeat (first | exact Sub.nil _ | refine Sub.cons (by repeat (first | exact List.Mem.head _ | apply List.Mem.tail)) ?_)) ?_
  rintro y1 _ _ ⟨rfl, rfl⟩
  refine store_box (d := zd x) 0 rfl ho rfl (by kernel_rfl) ?_ ?_; exact Reads.fact (by repeat (first | exact List.Mem.head _ | apply List.Mem.tail))
  refine load_box (d := zd x) 0 rfl ho rfl (load_I _ _) fun r => ?_
  exact fin ⟨rfl, rfl⟩ (Seals.trans (Seals.drop 0 _ _) (Seals.sub (by repeat (first | exact Sub.nil _ | refine Sub.cons (by repeat (first | exact List.Mem.head _ | apply List.Mem.tail)) ?_))))
theorem rLeadT (v : Value) (l : List Int) {k : Nat} (hl : szR k l) (hk : k ≤ 1099511627776) :
    Meets Try.prog 66 [v] [(v, vd l)] (fun r os fs => os = [] ∧ fs = [(r, zd (ld l))]) := by
  have := rLead_meets v (l.map cn) (hl.mono hk).fit
  rw [vv_cn] at this; exact this
theorem rDegreeT (v : Value) (l : List Int) {k : Nat} (hl : szR k l) (hk : k ≤ 1099511627776) :
    Meets Try.prog 50 [v] [(v, vd l)] (fun r os fs => os = [] ∧ fs = [] ∧ r = .int .i64 ((dg l : Nat) - 1 : Int)) := by
  have := rDegreeN v (l.map cn) (hl.mono hk).fit
  rw [vv_cn] at this; exact this
theorem rTerm_meets (v : Value) (c : Int) (s : Nat) (ls : s ≤ 1048576) :
    Meets Try.prog 88 [v, .int .i64 (s : Nat)] [(v, zd c)] (fun r os fs => os = [] ∧ fs = [(r, vd (up s [c]))]) := by
  refine meets_of_vc Try.func88 (by kernel_rfl) rfl (by kernel_rfl) (Nat.le_of_ble_eq_true rfl) ?_
  refine box_fact (Reads.fact (d := zd c) (by repeat (first | exact List.Mem.head _ | apply List.Mem.tail))) fun pc => ?_
  refine empty_L (size := 2) (e := 35) J z0 (by decide) fun v0 hv0 => ?_
  refine loop_rule (X := Value × Nat) (fun x => ([(1, .int .i64 (s : Nat)), (2, pc), (5, x.1), (6, .int .i64 (x.2 : Nat))], [ownL 2 J z0 x.1 ((List.replicate x.2 (0 : Int)).map cn)], [(pc, .ptr (zd c))])) (fun x => isSl x.1 ∧ x.2 ≤ s) (fun x => s - x.2) rfl ?_ ?_
  · exact again (v0, 0) ⟨hv0, Nat.zero_le _⟩ trivial (by repeat (first | exact trivial | refine ⟨rfl, ?_⟩ | refine ⟨i64_eq (by first | omega | (simp only; omega)), ?_⟩ | refine ⟨u64_eq (by first | omega | (simp only; omega)), ?_⟩)) (Seals.sub (by repeat (first | exact Sub.nil _ | refine Sub.cons (by repeat (first | exact List.Mem.head _ | apply List.Mem.tail)) ?_)))
  · rintro ⟨vo, i⟩ ⟨hvo, h2⟩
    simp only at hvo h2 ⊢
    have hll : (List.replicate i (0 : Int)).length = i := List.length_replicate
    refine cmp_split _ rfl (fun hlt => ?_) (fun hlt => ?_)
    · refine build0 (da := .one (.bool false)) (db := U (lims 0)) (fun S w => ⟨[.bool false], [.slice none 0 0], rfl, rd_false S w, by rw [lims_zero]; exact rd_nil S w 1 _⟩) fun y2 => ?_
      refine lit_L (size := 2) (f := J) (z := z0) (e := 35) (cn 0) (by decide) (Reads.fact (by repeat (first | exact List.Mem.head _ | apply List.Mem.tail))) rfl fun y4 => ?_
      refine append_L (size := 2) (e := 35) (f := J) (z := z0) (l := (List.replicate i (0 : Int)).map cn) (m := [cn 0]) 0 rfl hvo (Knw.fact (by repeat (first | exact List.Mem.head _ | apply List.Mem.tail))) (by simp only [List.length_map, hll, List.length_cons, List.length_nil]; omega) (by simp only [List.length_map, hll, List.length_cons, List.length_nil]; omega) fun vn hvn => ?_
      refine ar rfl (by first | exact ⟨by omega, by omega⟩ | (simp only [inK]; omega)) ?_
      refine again (vn, i + 1) ⟨hvn, by simp only; omega⟩ (by simp only; omega) (by repeat (first | exact trivial | refine ⟨rfl, ?_⟩ | refine ⟨i64_eq (by first | omega | (simp only; omega)), ?_⟩ | refine ⟨u64_eq (by first | omega | (simp only; omega)), ?_⟩)) ?_
      rw [show (List.replicate i (0 : Int)).map cn ++ [cn 0] = (List.replicate (i + 1) (0 : Int)).map cn by rw [List.replicate_succ', List.map_append]; rfl]
      exact Seals.sub (by repeat (first | exact Sub.nil _ | refine Sub.cons (by repeat (first | exact List.Mem.head _ | apply List.Mem.tail)) ?_))
    · have hii : i = s := by omega
      subst hii
      refine load_fact (d := zd c) (by repeat (first | exact List.Mem.head _ | apply List.Mem.tail)) (load_I _ _) fun y1 => ?_
      refine lit_L (size := 2) (f := J) (z := z0) (e := 35) (cn c) (by decide) (Reads.fact (by repeat (first | exact List.Mem.head _ | apply List.Mem.tail))) rfl fun y4 => ?_
      refine append_L (size := 2) (e := 35) (f := J) (z := z0) (l := (List.replicate i (0 : Int)).map cn) (m := [cn c]) 0 rfl hvo (Knw.fact (by repeat (first | exact List.Mem.head _ | apply List.Mem.tail))) (by simp only [List.length_map, hll, List.length_cons, List.length_nil]; omega) (by simp only [List.length_map, hll, List.length_cons, List.length_nil]; omega) fun vn hvn => ?_
      refine fin ⟨rfl, rfl⟩ ?_
      rw [show (List.replicate i (0 : Int)).map cn ++ [cn c] = (up i [c]).map cn by unfold up; rw [List.map_append]; rfl]
      exact Seals.trans (Seals.toldL hvn) (Seals.sub (by repeat (first | exact Sub.nil _ | refine Sub.cons (by repeat (first | exact List.Mem.head _ | apply List.Mem.tail)) ?_)))
/-- Another quotient: its lead is divided, too. -/
theorem lead_div {q T R T' R' : List Int} (e : ∀ x, pev q x * pev T x + pev R x = pev q x * pev T' x + pev R' x) (h1 : dg q ≤ dg R) (h2 : dg R' < dg q) : ld q ∣ ld R := by
  have hd : dg (psub R R') = dg R := by
    refine Nat.le_antisymm (dg_le.2 fun i hi => ?_) ?_
    · rw [co_psub, dg_le.1 (Nat.le_refl (dg R)) i (by omega), dg_le.1 (Nat.le_refl (dg R')) i (by omega)]; rfl
    · refine Nat.not_lt.1 fun h => ?_
      have h3 := dg_le.1 (show dg (psub R R') ≤ dg R - 1 by omega) (dg R - 1) (Nat.le_refl _)
      rw [co_psub, dg_le.1 (Nat.le_refl (dg R')) (dg R - 1) (by omega)] at h3
      have h4 := ld_ne (l := R) (by omega)
      unfold ld at h4
      omega
  have hl : ld (psub R R') = ld R := by
    unfold ld
    rw [hd, co_psub, dg_le.1 (Nat.le_refl (dg R')) (dg R - 1) (by omega)]; omega
  rw [← hl]
  refine ld_dvd ⟨psub T' T, fun x => ?_⟩ (by omega)
  have := e x
  rw [ev_psub, ev_psub, Int.mul_sub]; omega
/-- What parts tells. -/
structure PartSpec (p q T R : List Int) (ok : Bool) : Prop where
  yes : ok = true → Nm T ∧ Nm R ∧ dg R < dg q ∧ ∀ x, pev p x = pev q x * pev T x + pev R x
  no : ok = false → T = [] ∧ R = [] ∧ ¬ ∃ T' R' : List Int, dg R' < dg q ∧ ∀ x, pev p x = pev q x * pev T' x + pev R' x
def pks (k l j : Nat) : Nat := k + j * (l + 2)
theorem pks_succ (k l j : Nat) : pks k l (j + 1) = pks k l j + l + 2 := by unfold pks; rw [Nat.succ_mul]; omega
theorem pks_mono (k l : Nat) {i j : Nat} (h : i ≤ j) : pks k l i ≤ pks k l j := Nat.add_le_add_left (Nat.mul_le_mul_right _ h) _
theorem rParts_meets (v w : Value) (p q : Row) (k l : Nat) (hp : Fit k p) (hq : Fit l q) (h0 : 0 < dg (vv q)) (h1l : 1 ≤ l) (hlk : l ≤ k) (lp : p.length ≤ 1048576) (lq : q.length ≤ 1048576) (hk : 2 * pks k l (p.length + 2) ≤ 34359738368) :
    Meets Try.prog 61 [v, w] [(v, V p), (w, V q)] (fun r os fs => os = [] ∧ ∃ a b T R ok, r = .tuple #[a, b, .bool ok] ∧ PartSpec (vv p) (vv q) T R ok ∧ szR (pks k l (p.length + 2)) T ∧ szR (pks k l (p.length + 2)) R ∧ T.length ≤ p.length ∧ R.length ≤ p.length ∧ fs = [(a, vd T), (b, vd R)]) := by
  have hkk : k ≤ pks k l (p.length + 2) := by unfold pks; omega
  have n1 := rNormP_meets v p (hp.mono (by omega)) (by omega)
  have d2 := rDegreeN w q (hq.mono (by omega))
  have c2 := rLead_meets w q (hq.mono (by omega))
  have sld : sz (ld (vv q)) l := hq.szR.get _
  have hldq := ld_ne h0
  have la : (nrm (vv p)).length ≤ p.length := Nat.le_trans (nrm_length_le _) (by rw [vv_len]; exact Nat.le_refl _)
  have sA := hp.szR.nrm
  have nA : Nm (nrm (vv p)) := nrm_nrm _
  have eA : ∀ x, pev (nrm (vv p)) x = pev (vv p) x := ev_nrm _
  refine meets_of_vc Try.func61 (by kernel_rfl) rfl (by kernel_rfl) (Nat.le_of_ble_eq_true rfl) ?_
  refine empty_L (size := 2) (e := 35) J z0 (by decide) fun v0 hv0 => ?_
  refine call_fn (n1) (Seals.refl _ _) (by repeat (first | exact Sub.nil _ | refine Sub.cons (by repeat (first | exact List.Mem.head _ | apply List.Mem.tail)) ?_)) ?_
  rintro x1 _ _ ⟨rfl, rfl⟩
  generalize nrm (vv p) = A at *
  refine loop_rule (X := Nat × Value × Value × List Int × List Int) (fun x => ([(0, v), (1, w), (7, x.2.1), (8, x.2.2.1)], [], [(v, V p), (w, V q), (x.2.1, vd x.2.2.2.1), (x.2.2.1, vd x.2.2.2.2)]))
    (fun x => Nm x.2.2.2.1 ∧ Nm x.2.2.2.2 ∧ x.2.2.2.2.length + x.1 ≤ A.length ∧ szR (pks k l x.1) x.2.2.2.1 ∧ szR (pks k l x.1) x.2.2.2.2 ∧ x.2.2.2.1.length ≤ p.length ∧ ∀ y, pev (vv p) y = pev (vv q) y * pev x.2.2.2.1 y + pev x.2.2.2.2 y) (fun x => x.2.2.2.2.length) rfl ?_ ?_
  · refine again (0, v0, x1, [], A) ⟨rfl, nA, Nat.le_refl _, fun x hx => by simp at hx, sA.mono (by unfold pks; omega), Nat.zero_le _, fun y => by simp only [pev]; rw [eA]; omega⟩ trivial (by repeat (first | exact trivial | refine ⟨rfl, ?_⟩ | refine ⟨i64_eq (by first | omega | (simp only; omega)), ?_⟩ | refine ⟨u64_eq (by first | omega | (simp only; omega)), ?_⟩)) ?_
    exact Seals.trans (Seals.L (os := [ownL 2 J z0 v0 []]) 0 rfl hv0) (Seals.sub (by repeat (first | exact Sub.nil _ | refine Sub.cons (by repeat (first | exact List.Mem.head _ | apply List.Mem.tail)) ?_)))
  · rintro ⟨j, va, vb, T, R⟩ ⟨g1, g2, g3, g4, g5, g6, g7⟩
    simp only at g1 g2 g3 g4 g5 g6 g7 ⊢
    have dR := dg_nm g2
    have hjn : pks k l (j + 1 + 1) ≤ pks k l (p.length + 2) := pks_mono k l (by omega)
    have hj1 := pks_succ k l j
    have hj2 := pks_succ k l (j + 1)
    refine call_fn (rDegreeT vb R g5 (by omega)) (Seals.refl _ _) (by repeat (first | exact Sub.nil _ | refine Sub.cons (by repeat (first | exact List.Mem.head _ | apply List.Mem.tail)) ?_)) ?_
    rintro _ _ _ ⟨rfl, rfl, rfl⟩
    refine call_fn (d2) (Seals.refl _ _) (by repeat (first | exact Sub.nil _ | refine Sub.cons (by repeat (first | exact List.Mem.head _ | apply List.Mem.tail)) ?_)) ?_
    rintro _ _ _ ⟨rfl, rfl, rfl⟩
    refine cmp_split _ rfl (fun hge => ?_) (fun hge => ?_)
    · have hR : dg (vv q) ≤ dg R := by omega
      have slR : sz (ld R) (pks k l j) := g5.get _
      have slk : sz (ld (vv q)) (pks k l j) := sld.mono (by unfold pks; omega)
      have sc : sz (ld R / ld (vv q)) (pks k l j) := sz_div slR
      have sr : sz (ld R % ld (vv q)) (pks k l j) := by
        have a1 := Int.emod_nonneg (ld R) hldq
        have a2 := Int.emod_lt (ld R) hldq
        unfold sz at slk ⊢; omega
      have hs : ((dg R - dg (vv q) : Nat) : Int) = ((dg R : Nat) - 1 : Int) - ((dg (vv q) : Nat) - 1 : Int) := by omega
      have c3 := fun u => rTerm_meets u (ld R / ld (vv q)) (dg R - dg (vv q)) (by omega)
      rw [hs] at c3
      have sx : szR (pks k l j) (up (dg R - dg (vv q)) [ld R / ld (vv q)]) := fun x hx => by
        unfold up at hx
        rcases List.mem_append.1 hx with hx | hx
        · rw [List.eq_of_mem_replicate hx]; exact sz_zero _
        · rw [List.mem_singleton.1 hx]; exact sc
      have lx : (up (dg R - dg (vv q)) [ld R / ld (vv q)]).length = dg R - dg (vv q) + 1 := by rw [up_len]; rfl
      have ex : ∀ x, pev (up (dg R - dg (vv q)) [ld R / ld (vv q)]) x = x ^ (dg R - dg (vv q)) * (ld R / ld (vv q)) := fun x => by rw [ev_up]; simp [pev]
      have hdivs : ld R % ld (vv q) = 0 → dg (psub R (pmul (up (dg R - dg (vv q)) [ld R / ld (vv q)]) (vv q))) < dg R := fun h => by
        have := div_dg (R := R) (D := vv q) (c := ld R / ld (vv q)) h0 hR (Int.ediv_mul_cancel (Int.dvd_of_emod_eq_zero h))
        rw [dg_ext (m := psub R (prai (ld R / ld (vv q)) (dg R - dg (vv q)) (vv q))) fun x => by rw [ev_psub, ev_psub, ev_pmul, ex, ev_prai]; grind]
        exact this
      have hno : ld R % ld (vv q) ≠ 0 → ¬ ∃ T' R' : List Int, dg R' < dg (vv q) ∧ ∀ x, pev (vv p) x = pev (vv q) x * pev T' x + pev R' x := fun h ⟨T', R', h1, h2⟩ =>
        h (Int.emod_eq_zero_of_dvd (lead_div (T := T) (T' := T') (fun x => by rw [← g7, h2]) hR h1))
      generalize hX : up (dg R - dg (vv q)) [ld R / ld (vv q)] = X at *
      have sm : szR (pks k l j + l + 1) (pmul X (vv q)) := pmul_szR sx hq.szR (by omega)
      have lm : (pmul X (vv q)).length ≤ X.length + q.length := by
        have a1 := dg_le_len X
        have a2 : dg (vv q) ≤ q.length := Nat.le_trans (dg_le_len _) (by rw [vv_len]; exact Nat.le_refl _)
        by_cases h1 : 0 < dg X
        · have := (pmul_dg h1 h0).1
          rw [dg_nm (pmul_nm _ _)] at this
          omega
        · have : pmul X (vv q) = [] := (pmul_nm _ _).ext Nm.nil fun x => by rw [ev_pmul, dg_zero.1 (show dg X = 0 by omega)]; simp [pev]
          rw [this]; exact Nat.zero_le _
      have c4 := fun u => rPAdd_meets va u (T.map cn) (X.map cn) (pks k l j) g4.fit sx.fit (by omega) (by rw [List.length_map]; omega) (by rw [List.length_map]; omega)
      have c5 := fun u => rPMul_meets u w (X.map cn) q (pks k l j) l sx.fit hq (by omega) (by rw [List.length_map]; omega) (by omega)
      have c6 := fun u => rPSub_meets vb u (R.map cn) ((pmul X (vv q)).map cn) (pks k l j + l + 1) (g5.mono (by omega)).fit sm.fit (by omega) (by omega) (by rw [List.length_map]; omega) (by rw [List.length_map]; omega)
      simp only [vv_cn] at c4 c5 c6
      have z1 : szR (pks k l (j + 1)) (padd T X) := (g4.padd sx).mono (by omega)
      have z2 : szR (pks k l (j + 1)) (psub R (pmul X (vv q))) := ((g5.mono (show pks k l j ≤ pks k l j + l + 1 by omega)).psub sm).mono (by omega)
      have lT := padd_len T X
      have e7 : ∀ y, pev (vv p) y = pev (vv q) y * pev (padd T X) y + pev (psub R (pmul X (vv q))) y := fun y => by
        rw [ev_padd, ev_psub, ev_pmul, g7]; grind
      have nT : Nm (padd T X) := padd_nm _ _
      have nR : Nm (psub R (pmul X (vv q))) := psub_nm _ _
      have dR2 := dg_nm nR
      generalize padd T X = T2 at *
      generalize psub R (pmul X (vv q)) = R2 at *
      refine call_fn (rLeadT vb R g5 (by omega)) (Seals.refl _ _) (by repeat (first | exact Sub.nil _ | refine Sub.cons (by repeat (first | exact List.Mem.head _ | apply List.Mem.tail)) ?_)) ?_
      rintro y1 _ _ ⟨rfl, rfl⟩
      refine call_fn (c2) (Seals.refl _ _) (by repeat (first | exact Sub.nil _ | refine Sub.cons (by repeat (first | exact List.Mem.head _ | apply List.Mem.tail)) ?_)) ?_
      rintro y2 _ _ ⟨rfl, rfl⟩
      refine call_fn (rDivModZ y1 y2 (ld R) (ld (vv q)) (pks k l j) slR slk (by omega) hldq) (Seals.refl _ _) (by repeat (first | exact Sub.nil _ | refine Sub.cons (by repeat (first | exact List.Mem.head _ | apply List.Mem.tail)) ?_)) ?_
      rintro _ _ _ ⟨rfl, y3, y4, rfl, rfl⟩
      refine alloc_rule (d := I false []) fun bc hc => ?_
      refine alloc_rule (d := I false []) fun bm hm => ?_
      refine store_box (d := zd (ld R / ld (vv q))) 1 rfl hc rfl (by kernel_rfl) ?_ ?_; exact Reads.fact (by repeat (first | exact List.Mem.head _ | apply List.Mem.tail))
      refine store_box (d := zd (ld R % ld (vv q))) 0 rfl hm rfl (by kernel_rfl) ?_ ?_; exact Reads.fact (by repeat (first | exact List.Mem.head _ | apply List.Mem.tail))
      refine load_box (d := zd (ld R % ld (vv q))) 0 rfl hm rfl (load_I _ _) fun y5 => ?_
      have hz := zero_meets y5 (cn (ld R % ld (vv q))) (Lim_lims _) (Nat.le_trans sr.len (by omega))
      rw [jv_cn] at hz
      by_cases hr0 : ld R % ld (vv q) = 0
      · rw [decide_eq_true hr0] at hz
        refine call_fn (hz) (Seals.refl _ _) (by repeat (first | exact Sub.nil _ | refine Sub.cons (by repeat (first | exact List.Mem.head _ | apply List.Mem.tail)) ?_)) ?_
        rintro _ _ _ ⟨rfl, rfl, rfl⟩
        have hlt := hdivs hr0
        refine draw_rule [0, 1, 3, 2, 4, 5, 6, 7] [0, 1, 2, 3, 4, 5, 6, 7] (by kernel_rfl) (by kernel_rfl) ?_
        refine load_box (d := zd (ld R / ld (vv q))) 1 rfl hc rfl (load_I _ _) fun y6 => ?_
        refine call_fn (rDegreeT vb R g5 (by omega)) (Seals.refl _ _) (by repeat (first | exact Sub.nil _ | refine Sub.cons (by repeat (first | exact List.Mem.head _ | apply List.Mem.tail)) ?_)) ?_
        rintro _ _ _ ⟨rfl, rfl, rfl⟩
        refine call_fn (d2) (Seals.refl _ _) (by repeat (first | exact Sub.nil _ | refine Sub.cons (by repeat (first | exact List.Mem.head _ | apply List.Mem.tail)) ?_)) ?_
        rintro _ _ _ ⟨rfl, rfl, rfl⟩
        refine ar rfl (by first | exact ⟨by omega, by omega⟩ | (simp only [inK]; omega)) ?_
        refine call_fn (c3 y6) (Seals.refl _ _) (by repeat (first | exact Sub.nil _ | refine Sub.cons (by repeat (first | exact List.Mem.head _ | apply List.Mem.tail)) ?_)) ?_
        rintro y7 _ _ ⟨rfl, rfl⟩
        refine call_fn (c4 y7) (Seals.refl _ _) (by repeat (first | exact Sub.nil _ | refine Sub.cons (by repeat (first | exact List.Mem.head _ | apply List.Mem.tail)) ?_)) ?_
        rintro y8 _ _ ⟨rfl, rfl⟩
        refine call_fn (c5 y7) (Seals.refl _ _) (by repeat (first | exact Sub.nil _ | refine Sub.cons (by repeat (first | exact List.Mem.head _ | apply List.Mem.tail)) ?_)) ?_
        rintro y9 _ _ ⟨rfl, rfl⟩
        refine call_fn (c6 y9) (Seals.refl _ _) (by repeat (first | exact Sub.nil _ | refine Sub.cons (by repeat (first | exact List.Mem.head _ | apply List.Mem.tail)) ?_)) ?_
        rintro y10 _ _ ⟨rfl, rfl⟩
        exact again (j + 1, y8, y10, T2, R2) ⟨nT, nR, by simp only; omega, z1, z2, by simp only; omega, e7⟩ (by simp only; omega) (by repeat (first | exact trivial | refine ⟨rfl, ?_⟩ | refine ⟨i64_eq (by first | omega | (simp only; omega)), ?_⟩ | refine ⟨u64_eq (by first | omega | (simp only; omega)), ?_⟩)) (Seals.trans (Seals.drop 0 _ _) (Seals.trans (Seals.drop 0 _ _) (Seals.sub (by repeat (first | exact Sub.nil _ | refine Sub.cons (by repeat (first | exact List.Mem.head _ | apply List.Mem.tail)) ?_)))))
      · rw [decide_eq_false hr0] at hz
        refine call_fn (hz) (Seals.refl _ _) (by repeat (first | exact Sub.nil _ | refine Sub.cons (by repeat (first | exact List.Mem.head _ | apply List.Mem.tail)) ?_)) ?_
        rintro _ _ _ ⟨rfl, rfl, rfl⟩
        exact fin ⟨rfl, _, _, [], [], false, rfl, ⟨fun h => by simp at h, fun _ => ⟨rfl, rfl, hno hr0⟩⟩, fun x hx => by simp at hx, fun x hx => by simp at hx, Nat.zero_le _, Nat.zero_le _, rfl⟩ (Seals.trans (Seals.drop 0 _ _) (Seals.trans (Seals.drop 0 _ _) (Seals.cons (Knw.nil 2 _) (Seals.cons (Knw.nil 2 _) (Seals.nil _ _)))))
    · have hn := rNormT va T (g4.mono (by omega)) (by omega)
      refine call_fn (hn) (Seals.refl _ _) (by repeat (first | exact Sub.nil _ | refine Sub.cons (by repeat (first | exact List.Mem.head _ | apply List.Mem.tail)) ?_)) ?_
      rintro y1 _ _ ⟨rfl, rfl⟩
      have e : nrm T = T := g1
      rw [e]
      exact fin ⟨rfl, y1, vb, T, R, true, rfl, ⟨fun _ => ⟨g1, g2, by omega, g7⟩, fun h => by simp at h⟩, g4.mono (by omega), g5.mono (by omega), g6, by omega, rfl⟩ (Seals.sub (by repeat (first | exact Sub.nil _ | refine Sub.cons (by repeat (first | exact List.Mem.head _ | apply List.Mem.tail)) ?_)))
end Go.Proofs.Ytdnjahdppgjmlaa

namespace Go.Proofs.Ytdnjahdppgjmlaa
open Go.RowKit
theorem rDivide_meets (v w : Value) (p q : Row) (k l : Nat) (hp : Fit k p) (hq : Fit l q) (h1l : 1 ≤ l) (hlk : l ≤ k) (lp : p.length ≤ 1048576) (lq : q.length ≤ 1048576) (hk : 2 * pks k l (p.length + 2) ≤ 34359738368) :
    Meets Try.prog 18 [v, w] [(v, V p), (w, V q)] (fun r os fs => os = [] ∧ ∃ a t e, r = .tuple #[a, .int .i64 e] ∧ DivSpec (vv p) (vv q) t e ∧ fs = [(a, vd t)]) := by
  have hkk : k ≤ pks k l (p.length + 2) := by unfold pks; omega
  have d2 := rDegreeN w q (hq.mono (by omega))
  have hpt := fun h0 => rParts_meets v w p q k l hp hq h0 h1l hlk lp lq hk
  refine meets_of_vc Try.func18 (by kernel_rfl) rfl (by kernel_rfl) (Nat.le_of_ble_eq_true rfl) ?_
  refine call_fn (d2) (Seals.refl _ _) (by repeat (first | exact Sub.nil _ | refine Sub.cons (by repeat (first | exact List.Mem.head _ | apply List.Mem.tail)) ?_)) ?_
  rintro _ _ _ ⟨rfl, rfl, rfl⟩
  by_cases h0 : dg (vv q) = 0
  · refine cmp_true rfl (by omega) ?_
    exact fin ⟨rfl, _, [], 2, rfl, ⟨rfl, fun _ => ⟨rfl, rfl⟩, fun h => by omega, fun h => by omega⟩, rfl⟩ (Seals.cons (Knw.nil 2 _) (Seals.nil _ _))
  have h0 : 0 < dg (vv q) := by omega
  refine cmp_false rfl (by omega) ?_
  refine call_fn (hpt h0) (Seals.refl _ _) (by repeat (first | exact Sub.nil _ | refine Sub.cons (by repeat (first | exact List.Mem.head _ | apply List.Mem.tail)) ?_)) ?_
  rintro _ _ _ ⟨rfl, a, b, T, R, ok, rfl, hs, sT, sR, lT, lR, rfl⟩
  cases ok with
  | false =>
    obtain ⟨rfl, rfl, hno⟩ := hs.no rfl
    refine fin ⟨rfl, _, [], 11, rfl, ⟨rfl, fun h => by omega, fun _ ⟨t, ht⟩ => ?_, fun _ _ => ⟨rfl, rfl⟩⟩, rfl⟩ (Seals.cons (Knw.nil 2 _) (Seals.nil _ _))
    exact (hno ⟨t, [], by show (0 : Nat) < _; exact h0, fun x => by rw [ht]; simp [pev]⟩).elim
  | true =>
    obtain ⟨nT, nR, hlow, he⟩ := hs.yes rfl
    refine call_fn (rDegreeT b R sR (by omega)) (Seals.refl _ _) (by repeat (first | exact Sub.nil _ | refine Sub.cons (by repeat (first | exact List.Mem.head _ | apply List.Mem.tail)) ?_)) ?_
    rintro _ _ _ ⟨rfl, rfl, rfl⟩
    refine cmp_split _ rfl (fun hr => ?_) (fun hr => ?_)
    · refine fin ⟨rfl, _, [], 11, rfl, ⟨rfl, fun h => by omega, fun _ hd => ?_, fun _ _ => ⟨rfl, rfl⟩⟩, rfl⟩ (Seals.cons (Knw.nil 2 _) (Seals.nil _ _))
      have := (div_no he hd).deg (by omega)
      omega
    · have hR0 := dg_zero.1 (show dg R = 0 by omega)
      have he2 : ∀ x, pev (vv p) x = pev (vv q) x * pev T x := fun x => by rw [he, hR0]; omega
      exact fin ⟨rfl, a, T, 0, rfl, ⟨nT, fun h => by omega, fun _ _ => ⟨rfl, he2⟩, fun _ hn => (hn ⟨T, he2⟩).elim⟩, rfl⟩ (Seals.sub (by repeat (first | exact Sub.nil _ | refine Sub.cons (by repeat (first | exact List.Mem.head _ | apply List.Mem.tail)) ?_)))
/-- What the document's Rest reckons with. -/
def rks (k l n : Nat) : Nat := k + (n + 1) * (l + 1) + 1
theorem rRest_meets (v w : Value) (p q : Row) (k l : Nat) (hp : Fit k p) (hq : Fit l q) (h1l : 1 ≤ l) (hlk : l ≤ k) (lp : p.length ≤ 1048576) (lq : q.length ≤ 1048576) (hk : 4 * pks (rks k l p.length) l (p.length + 2) ≤ 34359738368) :
    Meets Try.prog 21 [v, w] [(v, V p), (w, V q)] (fun r os fs => os = [] ∧ ∃ a b T R, (if dg (vv q) = 0 then r = .tuple #[a, b, .int .i64 2] ∧ T = [] ∧ R = [] else r = .tuple #[a, b, .int .i64 0] ∧ RestSpec (vv p) (vv q) T R ∧ szR (pks (rks k l p.length) l (p.length + 2)) T ∧ szR (pks (rks k l p.length) l (p.length + 2)) R ∧ T.length ≤ p.length ∧ R.length ≤ p.length) ∧ fs = [(a, vd T), (b, vd R)]) := by
  have hkk : rks k l p.length ≤ pks (rks k l p.length) l (p.length + 2) := by unfold pks; omega
  have hkr : k ≤ rks k l p.length := by unfold rks; omega
  have hm1 : (p.length + 1) * (l + 1) + 1 ≤ rks k l p.length := by unfold rks; omega
  have d1 := rDegreeN v p (hp.mono (by omega))
  have d2 := rDegreeN w q (hq.mono (by omega))
  have c2 := rLead_meets w q (hq.mono (by omega))
  have sld : sz (ld (vv q)) l := hq.szR.get _
  have hdl : dg (vv p) ≤ p.length := Nat.le_trans (dg_le_len _) (by rw [vv_len]; exact Nat.le_refl _)
  have hdq : dg (vv q) ≤ q.length := Nat.le_trans (dg_le_len _) (by rw [vv_len]; exact Nat.le_refl _)
  refine meets_of_vc Try.func21 (by kernel_rfl) rfl (by kernel_rfl) (Nat.le_of_ble_eq_true rfl) ?_
  refine call_fn (d2) (Seals.refl _ _) (by repeat (first | exact Sub.nil _ | refine Sub.cons (by repeat (first | exact List.Mem.head _ | apply List.Mem.tail)) ?_)) ?_
  rintro _ _ _ ⟨rfl, rfl, rfl⟩
  by_cases h0 : dg (vv q) = 0
  · refine cmp_true rfl (by omega) ?_
    refine fin ⟨rfl, _, _, [], [], ?_, rfl⟩ (Seals.cons (Knw.nil 2 _) (Seals.cons (Knw.nil 2 _) (Seals.nil _ _)))
    rw [if_pos h0]
    exact ⟨rfl, rfl, rfl⟩
  have h0 : 0 < dg (vv q) := by omega
  have hd : max (0 : Int) (((dg (vv p) : Nat) - 1 : Int) - ((dg (vv q) : Nat) - 1 : Int) + 1) = ((dg (vv p) + 1 - dg (vv q) : Nat) : Int) := by omega
  obtain ⟨t0, r0, hlow0, he0⟩ := pseudo h0 (dg (vv p)) (vv p) (Nat.le_refl _)
  have hspec : ∀ T R, Nm T → Nm R → dg R < dg (vv q) → (∀ x, pev (ptim (ld (vv q) ^ (dg (vv p) + 1 - dg (vv q))) (vv p)) x = pev (vv q) x * pev T x + pev R x) → RestSpec (vv p) (vv q) T R := fun T R h1 h2 h3 h4 => ⟨h1, h2, h3, fun x => by rw [← h4, ev_ptim]⟩
  have hyes : ∃ T' R' : List Int, dg R' < dg (vv q) ∧ ∀ x, pev (ptim (ld (vv q) ^ (dg (vv p) + 1 - dg (vv q))) (vv p)) x = pev (vv q) x * pev T' x + pev R' x := ⟨t0, r0, hlow0, fun x => by rw [ev_ptim, he0]⟩
  have hdn : dg (vv p) + 1 - dg (vv q) ≤ p.length := by omega
  generalize dg (vv p) + 1 - dg (vv q) = d at *
  have hdm : (d + 1) * (l + 1) ≤ (p.length + 1) * (l + 1) := Nat.mul_le_mul_right _ (by omega)
  have hdm2 : d * l ≤ (p.length + 1) * (l + 1) := Nat.mul_le_mul (by omega) (by omega)
  have spw : sz (ld (vv q) ^ d) ((p.length + 1) * (l + 1) + 1) := (sz_pow sld d).mono (by omega)
  have sp2 : szR (rks k l p.length) (ptim (ld (vv q) ^ d) (vv p)) := (ptim_szR hp.szR spw).mono (by unfold rks; omega)
  have lp2 : (ptim (ld (vv q) ^ d) (vv p)).length ≤ p.length := Nat.le_trans (ptim_len _ _) (by rw [vv_len]; exact Nat.le_refl _)
  have c3 := fun u => rPower_meets u (ld (vv q)) d l sld (by omega)
  have c4 := fun u => rTimes_meets v u p (ld (vv q) ^ d) (rks k l p.length) (hp.mono hkr) (spw.mono hm1) (by omega) (by omega)
  have hpm := pks_mono (rks k l p.length) l (show ((ptim (ld (vv q) ^ d) (vv p)).map cn).length + 2 ≤ p.length + 2 by rw [List.length_map]; omega)
  have c5 := fun u => rParts_meets u w ((ptim (ld (vv q) ^ d) (vv p)).map cn) q (rks k l p.length) l sp2.fit hq h0 h1l (by omega) (by rw [List.length_map]; omega) lq (by omega)
  simp only [vv_cn] at c5
  generalize ld (vv q) ^ d = C at *
  generalize ptim C (vv p) = P2 at *
  refine cmp_false rfl (by omega) ?_
  refine call_fn (d1) (Seals.refl _ _) (by repeat (first | exact Sub.nil _ | refine Sub.cons (by repeat (first | exact List.Mem.head _ | apply List.Mem.tail)) ?_)) ?_
  rintro _ _ _ ⟨rfl, rfl, rfl⟩
  refine call_fn (d2) (Seals.refl _ _) (by repeat (first | exact Sub.nil _ | refine Sub.cons (by repeat (first | exact List.Mem.head _ | apply List.Mem.tail)) ?_)) ?_
  rintro _ _ _ ⟨rfl, rfl, rfl⟩
  refine ar rfl (by first | exact ⟨by omega, by omega⟩ | (simp only [inK]; omega)) ?_
  refine ar rfl (by first | exact ⟨by omega, by omega⟩ | (simp only [inK]; omega)) ?_
  refine max2_rule ?_
  rw [hd]
  refine call_fn (c2) (Seals.refl _ _) (by repeat (first | exact Sub.nil _ | refine Sub.cons (by repeat (first | exact List.Mem.head _ | apply List.Mem.tail)) ?_)) ?_
  rintro y1 _ _ ⟨rfl, rfl⟩
  refine call_fn (c3 y1) (Seals.refl _ _) (by repeat (first | exact Sub.nil _ | refine Sub.cons (by repeat (first | exact List.Mem.head _ | apply List.Mem.tail)) ?_)) ?_
  rintro y2 _ _ ⟨rfl, rfl⟩
  refine call_fn (c4 y2) (Seals.refl _ _) (by repeat (first | exact Sub.nil _ | refine Sub.cons (by repeat (first | exact List.Mem.head _ | apply List.Mem.tail)) ?_)) ?_
  rintro y3 _ _ ⟨rfl, rfl⟩
  refine call_fn (c5 y3) (Seals.refl _ _) (by repeat (first | exact Sub.nil _ | refine Sub.cons (by repeat (first | exact List.Mem.head _ | apply List.Mem.tail)) ?_)) ?_
  rintro _ _ _ ⟨rfl, a, b, T, R, ok, rfl, hs, sT, sR, lT, lR, rfl⟩
  rw [List.length_map] at lT lR
  refine fin ⟨rfl, a, b, T, R, ?_, rfl⟩ (Seals.sub (by repeat (first | exact Sub.nil _ | refine Sub.cons (by repeat (first | exact List.Mem.head _ | apply List.Mem.tail)) ?_)))
  rw [if_neg (by omega)]
  cases ok with
  | false => exact ((hs.no rfl).2.2 hyes).elim
  | true =>
    obtain ⟨nT, nR, hlow, he⟩ := hs.yes rfl
    exact ⟨rfl, hspec T R nT nR hlow he, sT.mono hpm, sR.mono hpm, by omega, by omega⟩
/-- ExactAll of a list of one's own, and the same, told. -/
theorem exactAll_own {K : Cont} {os : List Own} {fs : List Fact} (pos : Nat) {v w : Value} {l : List Int} (h : nthOwn os pos = some (ownL 2 J z0 v (l.map cn))) (hs : isSl v) (hw : (w, vd l) ∈ fs)
    (kk : K (.bool true) os fs) : CallK Try.prog false (.func (.func 62) #[] #[]) [v, w] os fs K := by
  have hml : (l.map cn).length = l.length := List.length_map _
  refine call_inline Try.func62 (by kernel_rfl) rfl (by kernel_rfl) (Nat.le_of_ble_eq_true rfl) ?_
  refine len_own pos h hs fun _ => ?_
  refine len_vd hw ?_
  refine cmp_false rfl (fun hne => hne (by rw [hml])) ?_
  refine loop_rule (X := Nat) (fun i => ([(0, v), (1, w), (5, .int .i64 (i : Nat))], os, fs)) (fun i => i ≤ l.length) (fun i => l.length - i) rfl ?_ ?_
  · exact again 0 (Nat.zero_le _) trivial (by repeat (first | exact trivial | refine ⟨rfl, ?_⟩ | refine ⟨i64_eq (by first | omega | (simp only; omega)), ?_⟩ | refine ⟨u64_eq (by first | omega | (simp only; omega)), ?_⟩)) (Seals.refl _ _)
  · rintro i hi
    refine len_own pos h hs fun _ => ?_
    refine cmp_split _ rfl (fun hlt => ?_) (fun hlt => ?_)
    · have hin : i < l.length := by omega
      refine draw_rule [0, 1, 2, 3, 4, 5, 6, 7, 8, 9] [0, 1, 2, 3, 4, 5, 6, 7, 8, 9] (by kernel_rfl) (by kernel_rfl) ?_
      refine index_elem pos h hs i rfl (by omega) ?_
      refine load_elem' (d := zd (l.getD i 0)) pos h i (by omega) (by rw [map_cn_get hin]; rfl) (load_I _ _) fun y1 => ?_
      refine index_vd (.tail _ hw) i rfl hin fun b1 => ?_
      refine load_fact (d := zd (l.getD i 0)) (List.Mem.head _) (load_I _ _) fun y2 => ?_
      have he := exactW y1 y2 (l.getD i 0) (l.getD i 0)
      rw [decide_eq_true rfl] at he
      refine call_fn he (Seals.refl _ _) (by repeat (first | exact Sub.nil _ | refine Sub.cons (by repeat (first | exact List.Mem.head _ | apply List.Mem.tail)) ?_)) ?_
      rintro _ _ _ ⟨rfl, rfl, rfl⟩
      refine ar rfl (by first | exact ⟨by omega, by omega⟩ | (simp only [inK]; omega)) ?_
      exact again (i + 1) (by omega) (by simp only; omega) (by repeat (first | exact trivial | refine ⟨rfl, ?_⟩ | refine ⟨i64_eq (by first | omega | (simp only; omega)), ?_⟩ | refine ⟨u64_eq (by first | omega | (simp only; omega)), ?_⟩)) (Seals.sub (fun F hF => by repeat (first | exact hF | apply List.Mem.tail)))
    · exact fin kk (Seals.refl _ _)
theorem same_own {K : Cont} {os : List Own} {fs : List Fact} (pos : Nat) {v w : Value} {l : List Int} (h : nthOwn os pos = some (ownL 2 J z0 v (l.map cn))) (hs : isSl v) (hw : (w, vd l) ∈ fs)
    (kk : K (.bool true) os fs) : CallK Try.prog false (.func (.func 19) #[] #[]) [v, w] os fs K := by
  refine call_inline Try.func19 (by kernel_rfl) rfl (by kernel_rfl) (Nat.le_of_ble_eq_true rfl) ?_
  refine exactAll_own pos h hs hw ?_
  exact fin kk (Seals.refl _ _)
end Go.Proofs.Ytdnjahdppgjmlaa

namespace Go.Proofs.Ytdnjahdppgjmlaa
open Go.RowKit
theorem clr_s (t : List Int) (i y : Nat) : upd (fun y => zd (if y < i then 0 else t.getD y 0)) i (zd 0) y = zd (if y < i + 1 then 0 else t.getD y 0) :=
  upd_zd (G := fun y => if y < i then 0 else t.getD y 0) (H := fun y => if y < i + 1 then 0 else t.getD y 0) (by rw [if_pos (by omega)]) (fun y hy => by
    by_cases h : y < i
    · rw [if_pos h, if_pos (by omega)]
    · rw [if_neg h, if_neg (by omega)]) y
theorem parts_walk (u v : Value) (p q : Row) (sp : smallR 14 3 p) (sq : smallR 14 3 q) (X R : List Int) (g : Int)
    (d1 : ∀ x y, Meets Try.prog 17 [x, y] [(x, V p), (y, V q)] (fun r os fs => ∃ a t e, r = .tuple #[a, .int .i64 e] ∧ DivSpec (vv p) (vv q) t e ∧ isSl a ∧ szR (3 + (p.length + 1) * (3 + 1)) t ∧ os = [ownL 2 J z0 a (t.map cn)] ∧ fs = []))
    (d2 : Meets Try.prog 18 [u, v] [(u, V p), (v, V q)] (fun r os fs => os = [] ∧ ∃ a t e, r = .tuple #[a, .int .i64 e] ∧ DivSpec (vv p) (vv q) t e ∧ fs = [(a, vd t)]))
    (r1 : ∀ x y, Meets Try.prog 20 [x, y] [(x, V p), (y, V q)] (fun r os fs => os = [] ∧ ∃ a b, r = .tuple #[a, b, .int .i64 g] ∧ fs = [(a, vd X), (b, vd R)]))
    (r2 : Meets Try.prog 21 [u, v] [(u, V p), (v, V q)] (fun r os fs => os = [] ∧ ∃ a b, r = .tuple #[a, b, .int .i64 g] ∧ fs = [(a, vd X), (b, vd R)])) :
    Meets Try.prog 3 [u, v] [(u, V p), (v, V q)] (fun r os fs => os = [] ∧ fs = [] ∧ r = .bool true) := by
  refine meets_of_vc Try.func3 (by kernel_rfl) rfl (by kernel_rfl) (Nat.le_of_ble_eq_true rfl) ?_
  refine call_fn shownP_meets (Seals.refl _ _) (by repeat (first | exact Sub.nil _ | refine Sub.cons (by repeat (first | exact List.Mem.head _ | apply List.Mem.tail)) ?_)) ?_
  rintro _ _ _ ⟨rfl, rfl, rfl⟩
  refine call_fn (fitsY u p sp) (Seals.refl _ _) (by repeat (first | exact Sub.nil _ | refine Sub.cons (by repeat (first | exact List.Mem.head _ | apply List.Mem.tail)) ?_)) ?_
  rintro _ _ _ ⟨rfl, rfl, rfl⟩
  refine call_fn (fitsY v q sq) (Seals.refl _ _) (by repeat (first | exact Sub.nil _ | refine Sub.cons (by repeat (first | exact List.Mem.head _ | apply List.Mem.tail)) ?_)) ?_
  rintro _ _ _ ⟨rfl, rfl, rfl⟩
  refine call_fn (rOwn_meets u p (by have := sp.1; omega) fun x hx => by have := sp.2 x hx; omega) (Seals.refl _ _) (by repeat (first | exact Sub.nil _ | refine Sub.cons (by repeat (first | exact List.Mem.head _ | apply List.Mem.tail)) ?_)) ?_
  rintro x _ _ ⟨rfl, hx, rfl⟩
  refine call_fn (rOwn_meets v q (by have := sq.1; omega) fun x hx => by have := sq.2 x hx; omega) (Seals.refl _ _) (by repeat (first | exact Sub.nil _ | refine Sub.cons (by repeat (first | exact List.Mem.head _ | apply List.Mem.tail)) ?_)) ?_
  rintro y _ _ ⟨rfl, hy, rfl⟩
  refine loop_rule (X := Nat) (fun i => ([(0, u), (1, v), (5, .bool true), (6, x), (7, y), (8, .int .i64 (i : Nat))], [], [(x, V p), (y, V q), (u, V p), (v, V q)])) (fun i => i ≤ 2) (fun i => 2 - i) rfl ?_ ?_
  · exact again 0 (by omega) trivial (by repeat (first | exact trivial | refine ⟨rfl, ?_⟩ | refine ⟨i64_eq (by first | omega | (simp only; omega)), ?_⟩ | refine ⟨u64_eq (by first | omega | (simp only; omega)), ?_⟩)) (Seals.trans (Seals.L 0 rfl hy) (Seals.trans (Seals.L 0 rfl hx) (Seals.sub (by repeat (first | exact Sub.nil _ | refine Sub.cons (by repeat (first | exact List.Mem.head _ | apply List.Mem.tail)) ?_)))))
  · rintro i hi
    refine cmp_split _ rfl (fun hc => ?_) (fun hc => ?_)
    · refine call_fn (d1 x y) (Seals.refl _ _) (by repeat (first | exact Sub.nil _ | refine Sub.cons (by repeat (first | exact List.Mem.head _ | apply List.Mem.tail)) ?_)) ?_
      rintro _ _ _ ⟨a, t, e, rfl, hs, ha, st, rfl, rfl⟩
      refine call_fn d2 (Seals.refl _ _) (by repeat (first | exact Sub.nil _ | refine Sub.cons (by repeat (first | exact List.Mem.head _ | apply List.Mem.tail)) ?_)) ?_
      rintro _ _ _ ⟨rfl, a2, t2, e2, rfl, hs2, rfl⟩
      obtain ⟨rfl, rfl⟩ := hs.unique hs2
      refine same_own 0 rfl ha (by repeat (first | exact List.Mem.head _ | apply List.Mem.tail)) ?_
      refine cmp_false rfl (fun h => h rfl) ?_
      refine call_fn (r1 x y) (Seals.refl _ _) (by repeat (first | exact Sub.nil _ | refine Sub.cons (by repeat (first | exact List.Mem.head _ | apply List.Mem.tail)) ?_)) ?_
      rintro _ _ _ ⟨rfl, a3, b3, rfl, rfl⟩
      refine call_fn r2 (Seals.refl _ _) (by repeat (first | exact Sub.nil _ | refine Sub.cons (by repeat (first | exact List.Mem.head _ | apply List.Mem.tail)) ?_)) ?_
      rintro _ _ _ ⟨rfl, a4, b4, rfl, rfl⟩
      refine call_fn (sameT a3 a4 _ _ (rfl)) (Seals.refl _ _) (by repeat (first | exact Sub.nil _ | refine Sub.cons (by repeat (first | exact List.Mem.head _ | apply List.Mem.tail)) ?_)) ?_
      rintro _ _ _ ⟨rfl, rfl, rfl⟩
      refine call_fn (sameT b3 b4 _ _ (rfl)) (Seals.refl _ _) (by repeat (first | exact Sub.nil _ | refine Sub.cons (by repeat (first | exact List.Mem.head _ | apply List.Mem.tail)) ?_)) ?_
      rintro _ _ _ ⟨rfl, rfl, rfl⟩
      refine cmp_false rfl (fun h => h rfl) ?_
      have hml : (t.map cn).length = t.length := List.length_map _
      refine loop_rule (X := Nat) (fun j => ([(0, u), (1, v), (5, .bool true), (6, x), (7, y), (8, .int .i64 (i : Nat)), (9, a), (19, .int .i64 (j : Nat))], [own1 a 2 t.length (fun y => zd (if y < j then 0 else t.getD y 0))], [(x, V p), (y, V q), (u, V p), (v, V q)])) (fun j => j ≤ t.length) (fun j => t.length - j) rfl ?_ ?_
      · exact again 0 (Nat.zero_le _) trivial (by repeat (first | exact trivial | refine ⟨rfl, ?_⟩ | refine ⟨i64_eq (by first | omega | (simp only; omega)), ?_⟩ | refine ⟨u64_eq (by first | omega | (simp only; omega)), ?_⟩)) (Seals.trans (own_told fun y _ => rfl) (Seals.sub (by repeat (first | exact Sub.nil _ | refine Sub.cons (by repeat (first | exact List.Mem.head _ | apply List.Mem.tail)) ?_))))
      · rintro j hj
        refine len_own 0 rfl ha fun _ => ?_
        refine cmp_split _ rfl (fun hd => ?_) (fun hd => ?_)
        · have hjt : j < t.length := by omega
          refine build0 (da := .one (.bool false)) (db := U (lims 0)) (fun S w => ⟨[.bool false], [.slice none 0 0], rfl, rd_false S w, by rw [lims_zero]; exact rd_nil S w 1 _⟩) fun z => ?_
          refine index_elem 0 rfl ha j rfl hjt ?_
          refine StoreK.post (store_elem (d := zd 0) 0 rfl j hjt rfl (by kernel_rfl) (Reads.fact (by repeat (first | exact List.Mem.head _ | apply List.Mem.tail))) ⟨_, _, Seals.own_cong (os := [_]) 0 (fun y => zd (if y < j + 1 then 0 else t.getD y 0)) rfl rfl (fun y _ => clr_s t j y), ?_⟩)
          refine ar rfl (by first | exact ⟨by omega, by omega⟩ | (simp only [inK]; omega)) ?_
          exact again (j + 1) (by omega) (by simp only; omega) (by repeat (first | exact trivial | refine ⟨rfl, ?_⟩ | refine ⟨i64_eq (by first | omega | (simp only; omega)), ?_⟩ | refine ⟨u64_eq (by first | omega | (simp only; omega)), ?_⟩)) (Seals.sub (by repeat (first | exact Sub.nil _ | refine Sub.cons (by repeat (first | exact List.Mem.head _ | apply List.Mem.tail)) ?_)))
        · refine ar rfl (by first | exact ⟨by omega, by omega⟩ | (simp only [inK]; omega)) ?_
          exact again (i + 1) (by omega) (by simp only; omega) (by repeat (first | exact trivial | refine ⟨rfl, ?_⟩ | refine ⟨i64_eq (by first | omega | (simp only; omega)), ?_⟩ | refine ⟨u64_eq (by first | omega | (simp only; omega)), ?_⟩)) (Seals.trans (Seals.drop 0 _ _) (Seals.sub (by repeat (first | exact Sub.nil _ | refine Sub.cons (by repeat (first | exact List.Mem.head _ | apply List.Mem.tail)) ?_))))
    ·
      refine call_fn (sameV x u p) (Seals.refl _ _) (by repeat (first | exact Sub.nil _ | refine Sub.cons (by repeat (first | exact List.Mem.head _ | apply List.Mem.tail)) ?_)) ?_
      rintro _ _ _ ⟨rfl, rfl, rfl⟩
      refine call_fn (sameV y v q) (Seals.refl _ _) (by repeat (first | exact Sub.nil _ | refine Sub.cons (by repeat (first | exact List.Mem.head _ | apply List.Mem.tail)) ?_)) ?_
      rintro _ _ _ ⟨rfl, rfl, rfl⟩
      exact fin ⟨rfl, rfl, rfl⟩ (Seals.nil _ _)
theorem parts_meets (u v : Value) (p q : Row) (hp : limR p) (hq : limR q) :
    Meets Try.prog 3 [u, v] [(u, V p), (v, V q)] (fun r os fs => os = [] ∧ fs = [] ∧ r = .bool true) := by
  by_cases sp : smallR 14 3 p
  case neg =>
    refine meets_of_vc Try.func3 (by kernel_rfl) rfl (by kernel_rfl) (Nat.le_of_ble_eq_true rfl) ?_
    refine call_fn shownP_meets (Seals.refl _ _) (by repeat (first | exact Sub.nil _ | refine Sub.cons (by repeat (first | exact List.Mem.head _ | apply List.Mem.tail)) ?_)) ?_
    rintro _ _ _ ⟨rfl, rfl, rfl⟩
    refine call_fn (fitsN u p sp) (Seals.refl _ _) (by repeat (first | exact Sub.nil _ | refine Sub.cons (by repeat (first | exact List.Mem.head _ | apply List.Mem.tail)) ?_)) ?_
    rintro _ _ _ ⟨rfl, rfl, rfl⟩
    exact fin ⟨rfl, rfl, rfl⟩ (Seals.nil _ _)
  by_cases sq : smallR 14 3 q
  case neg =>
    refine meets_of_vc Try.func3 (by kernel_rfl) rfl (by kernel_rfl) (Nat.le_of_ble_eq_true rfl) ?_
    refine call_fn shownP_meets (Seals.refl _ _) (by repeat (first | exact Sub.nil _ | refine Sub.cons (by repeat (first | exact List.Mem.head _ | apply List.Mem.tail)) ?_)) ?_
    rintro _ _ _ ⟨rfl, rfl, rfl⟩
    refine call_fn (fitsY u p sp) (Seals.refl _ _) (by repeat (first | exact Sub.nil _ | refine Sub.cons (by repeat (first | exact List.Mem.head _ | apply List.Mem.tail)) ?_)) ?_
    rintro _ _ _ ⟨rfl, rfl, rfl⟩
    refine call_fn (fitsN v q sq) (Seals.refl _ _) (by repeat (first | exact Sub.nil _ | refine Sub.cons (by repeat (first | exact List.Mem.head _ | apply List.Mem.tail)) ?_)) ?_
    rintro _ _ _ ⟨rfl, rfl, rfl⟩
    exact fin ⟨rfl, rfl, rfl⟩ (Seals.nil _ _)
  have P := Lk.raw sp hp
  have Q := Lk.raw sq hq
  have lp := sp.1
  have lq := sq.1
  have fp := P.fit
  have fq := Q.fit
  have hb1 : pks 3 3 (p.length + 2) ≤ pks 3 3 16 := pks_mono 3 3 (by omega)
  have hb2 : rks 3 3 p.length ≤ 64 := by unfold rks; omega
  have hb3 : pks (rks 3 3 p.length) 3 (p.length + 2) ≤ 64 + 16 * 5 := by
    unfold pks
    have : (p.length + 2) * (3 + 2) ≤ 16 * 5 := Nat.mul_le_mul (by omega) (by omega)
    omega
  have hb4 : pks 3 3 16 = 83 := rfl
  have d1 := fun x y => pDivideO_meets x y p q 3 3 fp fq (by omega) (by omega) (by omega)
  have d2 := rDivide_meets u v p q 3 3 fp fq (by decide) (by decide) (by omega) (by omega) (by omega)
  have r2 := rRest_meets u v p q 3 3 fp fq (by decide) (by decide) (by omega) (by omega) (by omega)
  by_cases h0 : dg (vv q) = 0
  · refine parts_walk u v p q sp sq [] [] 2 d1 d2 (fun x y => ?_) ?_
    · exact xRestZ x y P Q h0
    · refine r2.mono fun r os fs ⟨g1, a, b, T, R, g2, g3⟩ => ?_
      rw [if_pos h0] at g2
      obtain ⟨k1, rfl, rfl⟩ := g2
      exact ⟨g1, a, b, k1, g3⟩
  · obtain ⟨T0, R0, hs0⟩ : ∃ T R, RestSpec (vv p) (vv q) T R := by
      obtain ⟨t, r, hl, he⟩ := pseudo (show 0 < dg (vv q) by omega) (dg (vv p)) (vv p) (Nat.le_refl _)
      exact ⟨nrm t, nrm r, Nm.nrm _, Nm.nrm _, by rw [dg_ext (ev_nrm r)]; exact hl, fun x => by rw [ev_nrm, ev_nrm]; exact he x⟩
    refine parts_walk u v p q sp sq T0 R0 0 d1 d2 (fun x y => ?_) ?_
    · refine (xRestP x y P Q (by omega)).mono fun r os fs ⟨g1, a, b, T, R, g2, hs, _, _, _, _, g3⟩ => ?_
      obtain ⟨rfl, rfl⟩ := hs.unique hs0
      exact ⟨g1, a, b, g2, g3⟩
    · refine r2.mono fun r os fs ⟨g1, a, b, T, R, g2, g3⟩ => ?_
      rw [if_neg h0] at g2
      obtain ⟨k1, hs, _⟩ := g2
      obtain ⟨rfl, rfl⟩ := hs.unique hs0
      exact ⟨g1, a, b, k1, g3⟩
end Go.Proofs.Ytdnjahdppgjmlaa

namespace Go.Proofs.Ytdnjahdppgjmlaa
open Go.ChangeShapes Go.WideShapes Go.ChangeAt Go.RowKit
open Go.Joins (open_agg2)
set_option maxRecDepth 100000 in
theorem polyzParts_lifted (os : Os) (started : os.Started) (H : Type) (enc : TypeId × Value → H) :
    ReturnsInHanded {} Try.checked os 3 .any (Rows.polyzPartsSpec.pre6 enc Try.prog Try.f3 Rows.polyzPartsRow.domain false) (Rows.polyzPartsSpec.post enc Try.prog Try.f3 false true false false) := by
  refine returnsInHanded_of_change (C := Try.checked) own0 started (by kernel_rfl) Try.func3
    (ChangeSpec.witness6 (enc := enc) (C := Try.checked) false ⟨#[], #[.slice none 0 0, .slice none 0 0], []⟩ 8 (by kernel_rfl) (by kernel_rfl) (by kernel_rfl) (by kernel_rfl)) ?_
  intro Wd base args ds gs before hval0 hW hcnd _
  have hval : ∀ (j : Nat) t v, Try.f3.params[j]? = some t → args[j]? = some v → Value.okWide Try.prog Wd .any base t v := hval0
  have hW' := hW
  obtain ⟨p, q, hA0, hV, rfl, hfz, hnd⟩ := hW
  have hA : DataW.TrodAll enc Try.prog Wd 0 (fun _ => true) true Try.f3.params.toList args.toList ds p := hA0
  rw [Try.params3] at hA hval
  obtain ⟨v0, vs0, d0, ds0, p0, q0, hargs, rfl, rfl, h0, r0⟩ := trodAll_cons hA
  obtain ⟨v1, vs1, d1, ds1, p1, q1, rfl, rfl, rfl, h1, r1⟩ := trodAll_cons r0
  obtain ⟨rfl, rfl, rfl⟩ := trodAll_nil r1
  obtain rfl : args = #[v0, v1] := by cases args; simp_all
  obtain ⟨rfl, rfl⟩ := trodVars_none hV
  obtain ⟨a0, n0, c0, rfl⟩ := okWide_slice Try.underlying23 (hval 0 23 v0 rfl rfl)
  have k0 := h0
  have lt0 : ∀ x ∈ p0, x.block < Wd.heap.size := by obtain ⟨m, hm⟩ := k0; exact DataW.trod_lt m _ _ _ hm
  obtain ⟨m0, lm0, rd0⟩ : ∃ m, limR m ∧ Rd (fun b => b < Wd.heap.size) Wd (.slice a0 n0 c0) (V m) := by
    obtain ⟨fuel, hf⟩ := h0
    obtain ⟨m, e1, e2⟩ := rd_poly hf
    exact ⟨m, e1, rd_val rfl e2⟩
  obtain ⟨a1, n1, c1, rfl⟩ := okWide_slice Try.underlying23 (hval 1 23 v1 rfl rfl)
  have k1 := h1
  have lt1 : ∀ x ∈ p1, x.block < Wd.heap.size := by obtain ⟨m, hm⟩ := k1; exact DataW.trod_lt m _ _ _ hm
  obtain ⟨m1, lm1, rd1⟩ : ∃ m, limR m ∧ Rd (fun b => b < Wd.heap.size) Wd (.slice a1 n1 c1) (V m) := by
    obtain ⟨fuel, hf⟩ := h1
    obtain ⟨m, e1, e2⟩ := rd_poly hf
    exact ⟨m, e1, rd_val rfl e2⟩
  clear hA0 hval0
  refine (calls_of_meets (w := Wd) (parts_meets (.slice a0 n0 c0) (.slice a1 n1 c1) m0 m1 lm0 lm1) ?_).mono fun e W2 ⟨he, bel⟩ => ?_
  · intro F hF
    simp only [List.mem_cons, List.not_mem_nil, or_false] at hF
    rcases hF with rfl | rfl
    · exact rd0
    · exact rd1
  subst he
  exact ⟨_, rfl, _, _, _, [], _, [], hW', trodAll_mk1 (shut_bool Try.underlying4 _), (trodAll_cons_mk (Below.trod laid0 (by kernel_rfl) (of_decide_eq_true (by kernel_rfl)) k0 bel lt0) (trodAll_cons_mk (Below.trod laid0 (by kernel_rfl) (of_decide_eq_true (by kernel_rfl)) k1 bel lt1) trodAll_mk0)), rfl, bel.frame _, fun h => by cases h⟩
theorem polyzParts_holds : Rows.PolyzPartsSaid :=
  OpenClaim.holds_of_wide 3 Try.f3 rfl rfl rfl rfl rfl rfl rfl ⟨rfl, rfl, rfl, rfl, rfl⟩ rfl rfl rfl rfl rfl (by kernel_rfl) Try.func3 (by kernel_rfl)
    (of_decide_eq_true (by kernel_rfl)) (by unfold Func.isWrapper; first | (rw [if_pos (by decide +kernel)]; kernel_rfl) | (rw [if_neg (by decide +kernel)]; exact ⟨rfl, rfl⟩))
    (fun os started H enc _ => polyzParts_lifted os started H enc)
#print axioms polyzParts_holds
end Go.Proofs.Ytdnjahdppgjmlaa
