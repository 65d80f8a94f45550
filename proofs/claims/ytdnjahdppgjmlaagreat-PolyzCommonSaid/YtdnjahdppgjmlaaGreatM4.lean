/- Towards the statement, part 4 of 5: contracts of functions, and what they rest on. Conditions: each theorem names its own. -/
import Derived.Test.YtdnjahdppgjmlaaGreatM3
set_option linter.unusedVariables false
set_option linter.unusedSimpArgs false

namespace Go.Proofs.YtdnjahdppgjmlaaGreat
/-- A greatest common divisor, its lead not below 0. -/
def Gc (g p q : List Int) : Prop := Dv g p ∧ Dv g q ∧ (∀ h, Dv h p → Dv h q → Dv h g) ∧ 0 ≤ ld g
theorem const_ev {u : List Int} (h : dg u ≤ 1) (x : Int) : pev u x = u.getD 0 0 := by
  have : nrm u = nrm [u.getD 0 0] := nrm_ext fun i => by
    cases i with
    | zero => rfl
    | succ i => rw [dg_le.1 h (i + 1) (by omega)]; rfl
  rw [ev_of_nrm this]; simp [pev]
/-- What divides and is divided is the same but for the sign. -/
theorem Dv.anti {a b : List Int} (h : Dv a b) (k : Dv b a) (ha : 0 ≤ ld a) (hb : 0 ≤ ld b) (x : Int) : pev a x = pev b x := by
  obtain ⟨u, hu⟩ := h
  obtain ⟨v, hv⟩ := k
  by_cases h0 : dg a = 0
  · rw [hu, dg_zero.1 h0]; simp
  have h0 : 0 < dg a := by omega
  have huv : ∀ x, pev (pmul u v) x = pev [1] x := cancel h0 fun x => by rw [ev_pmul, ← Int.mul_assoc, ← hu, ← hv]; simp [pev]
  have hd : dg (pmul u v) = 1 := by rw [dg_ext huv]; rfl
  have hu0 : 0 < dg u := dg_pos fun e => by
    have : dg (pmul u v) = 0 := dg_zero.2 fun x => by rw [ev_pmul, e]; simp
    omega
  have hv0 : 0 < dg v := dg_pos fun e => by
    have : dg (pmul u v) = 0 := dg_zero.2 fun x => by rw [ev_pmul, e]; simp
    omega
  have h1 := pmul_dg hu0 hv0
  have hl : ld u * ld v = 1 := by rw [← h1.2, ld_ext huv]; rfl
  have e1 : u.getD 0 0 = ld u := by rw [ld, show dg u = 1 by omega]
  have h2 := (mul_dg hu h0 hu0).2
  have h3 : ld a ≠ 0 := ld_ne h0
  have h4 : 0 ≤ ld u := by
    refine Int.not_lt.1 fun hn => ?_
    have := Int.mul_neg_of_pos_of_neg (show 0 < ld a by omega) hn
    omega
  have h5 : ld u = 1 := by
    have : (ld u).natAbs * (ld v).natAbs = 1 := by rw [← Int.natAbs_mul, hl]; rfl
    have := Nat.eq_one_of_mul_eq_one_right this
    omega
  rw [hu, const_ev (show dg u ≤ 1 by omega), e1, h5, Int.mul_one]
theorem Gc.unique {g g' p q : List Int} (h : Gc g p q) (h' : Gc g' p q) (x : Int) : pev g x = pev g' x :=
  Dv.anti (h'.2.2.1 g h.1 h.2.1) (h.2.2.1 g' h'.1 h'.2.1) h.2.2.2 h'.2.2.2 x
theorem Gc.ext {g g' p p' q q' : List Int} (h : Gc g p q) (e : ∀ x, pev g x = pev g' x) (e1 : ∀ x, pev p x = pev p' x) (e2 : ∀ x, pev q x = pev q' x) : Gc g' p' q' :=
  ⟨h.1.ext e e1, h.2.1.ext e e2, fun d h1 h2 => (h.2.2.1 d (h1.ext (fun _ => rfl) fun x => (e1 x).symm) (h2.ext (fun _ => rfl) fun x => (e2 x).symm)).ext (fun _ => rfl) e, by rw [← ld_ext e]; exact h.2.2.2⟩
/-- The content, with the sign of the lead. -/
def scont (l : List Int) : Int := if ld l < 0 then - (cont l : Int) else cont l
def pprim (l : List Int) : List Int := nrm ((nrm l).map fun y => y / scont l)
theorem scont_natAbs (l : List Int) : (scont l).natAbs = cont l := by
  unfold scont; split <;> omega
theorem pprim_ev (l : List Int) (x : Int) : pev l x = scont l * pev (pprim l) x := by
  rw [pprim, ev_nrm, ← ev_map_mul, List.map_map]
  rw [← ev_nrm l]
  congr 1
  have : ∀ y, y ∈ nrm l → y = ((fun y => scont l * y) ∘ fun y => y / scont l) y := fun y hy => by
    obtain ⟨i, hi, rfl⟩ := List.mem_iff_getElem.1 hy
    have h1 := dvd_cont.1 (Nat.dvd_refl (cont l)) i
    rw [← co_nrm, List.getD_eq_getElem?_getD, List.getElem?_eq_getElem hi] at h1
    have h2 : scont l ∣ (nrm l)[i] := by
      rw [← Int.natAbs_dvd, scont_natAbs]; exact h1
    exact (Int.mul_ediv_cancel' h2).symm
  exact (List.map_id _).symm.trans (List.map_congr_left this)
theorem pprim_nm (l : List Int) : Nm (pprim l) := nrm_nrm _
theorem pprim_zero {l : List Int} (h : dg l = 0) : pprim l = [] := by
  unfold pprim
  rw [List.length_eq_zero_iff.1 h]; rfl
theorem pprim_dg (l : List Int) : dg (pprim l) = dg l := by
  by_cases h : dg l = 0
  · rw [pprim_zero h, h]; rfl
  have h0 : scont l ≠ 0 := fun e => h (cont_zero.1 (by have := scont_natAbs l; omega))
  have e : ∀ x, pev l x = pev [scont l] x * pev (pprim l) x := fun x => by rw [pprim_ev]; simp [pev]
  have h1 : 0 < dg (pprim l) := dg_pos fun e1 => h (dg_zero.2 fun x => by rw [pprim_ev, e1]; simp)
  have h2 : dg [scont l] = 1 := by simp [dg, nrm, h0]
  have := (mul_dg e (by omega) h1).1
  omega
theorem pprim_cont {l : List Int} (h : 0 < dg l) : cont (pprim l) = 1 := by
  have h1 := cont_mul (pprim_ev l)
  rw [scont_natAbs] at h1
  have h2 : cont l ≠ 0 := fun e => by have := cont_zero.1 e; omega
  exact Nat.eq_of_mul_eq_mul_left (Nat.pos_of_ne_zero h2) (by omega)
theorem pprim_ld {l : List Int} (h : 0 < dg l) : 0 < ld (pprim l) := by
  have h1 := ld_ne (l := pprim l) (by rw [pprim_dg]; exact h)
  have h2 : ld l = scont l * ld (pprim l) := by
    have e : ∀ x, pev l x = pev (ptim (scont l) (pprim l)) x := fun x => by rw [ev_ptim, ← pprim_ev]
    unfold ld
    rw [co_ext e, co_ptim, pprim_dg]
  have h3 := ld_ne h
  unfold scont at h2
  refine Int.not_le.1 fun hn => ?_
  have h4 : ld (pprim l) < 0 := by omega
  have hc : (0 : Int) ≤ cont l := Int.natCast_nonneg _
  split at h2
  · have := Int.mul_nonneg_of_nonpos_of_nonpos (show -(cont l : Int) ≤ 0 by omega) (Int.le_of_lt h4); omega
  · have := Int.mul_nonpos_of_nonneg_of_nonpos hc (Int.le_of_lt h4); omega
theorem prim_dv {h r : List Int} (hh : cont h = 1) : Dv h (pprim r) ↔ Dv h r := by
  constructor
  · rintro ⟨u, hu⟩
    exact ⟨ptim (scont r) u, fun x => by rw [pprim_ev, hu, ev_ptim]; grind⟩
  · intro hd
    by_cases h0 : dg r = 0
    · exact Dv.zero _ fun x => by rw [pprim_zero h0]; rfl
    have h1 : scont r ≠ 0 := fun e => h0 (cont_zero.1 (by have := scont_natAbs r; omega))
    exact Dv.prim hh h1 (hd.ext (fun _ => rfl) fun x => by rw [ev_map_mul, ← pprim_ev])
theorem gcd_step {a b t r h : List Int} {k : Int} (hh : cont h = 1) (hk : k ≠ 0) (e : ∀ x, k * pev a x = pev b x * pev t x + pev r x) : Dv h a ∧ Dv h b ↔ Dv h b ∧ Dv h (pprim r) := by
  rw [prim_dv hh]
  constructor
  · rintro ⟨h1, h2⟩
    refine ⟨h2, (h1.mul_right (c := [k]) (d := ptim k a) fun x => by rw [ev_ptim]; simp only [pev]; grind).sub (h2.mul_right (c := t) (d := pmul b t) fun x => ev_pmul _ _ _) fun x => ?_⟩
    rw [ev_ptim, ev_pmul, e]; omega
  · rintro ⟨h1, h2⟩
    refine ⟨Dv.prim hh hk ((h1.mul_right (c := t) (d := pmul b t) fun x => ev_pmul _ _ _).add h2 fun x => ?_), h1⟩
    rw [ev_map_mul, e, ev_pmul]
theorem gcd_end {p q a : List Int} (ha : 0 < dg a → cont a = 1 ∧ 0 < ld a) (hz : dg a = 0 → dg p = 0 ∧ dg q = 0)
    (h : ∀ h, cont h = 1 → (Dv h a ↔ Dv h (pprim p) ∧ Dv h (pprim q))) : Gc (ptim (Nat.gcd (cont p) (cont q) : Nat) a) p q := by
  by_cases h0 : dg a = 0
  · obtain ⟨h1, h2⟩ := hz h0
    have e : ∀ x, pev (ptim (Nat.gcd (cont p) (cont q) : Nat) a) x = 0 := fun x => by rw [ev_ptim, dg_zero.1 h0]; simp
    refine ⟨Dv.zero _ (dg_zero.1 h1), Dv.zero _ (dg_zero.1 h2), fun d _ _ => Dv.zero _ e, ?_⟩
    unfold ld; rw [dg_le.1 (Nat.le_of_eq (dg_zero.2 e)) _ (Nat.zero_le _)]; exact Int.le_refl _
  obtain ⟨ha1, ha2⟩ := ha (by omega)
  obtain ⟨k1, k2⟩ := (h a ha1).1 (Dv.refl a)
  have side : ∀ (p : List Int) (c : Nat), c ∣ cont p → Dv a (pprim p) → Dv (ptim (c : Nat) a) p := fun p c hc hd => by
    obtain ⟨u, hu⟩ := hd
    obtain ⟨s, hs⟩ : (c : Int) ∣ scont p := by rw [← Int.dvd_natAbs, scont_natAbs]; exact Int.natCast_dvd_natCast.2 hc
    exact ⟨ptim s u, fun x => by rw [pprim_ev, hu, ev_ptim, ev_ptim, hs]; grind⟩
  refine ⟨side p _ (Nat.gcd_dvd_left _ _) k1, side q _ (Nat.gcd_dvd_right _ _) k2, fun d hp hq => ?_, ?_⟩
  · by_cases hd : dg d = 0
    · have z : ∀ {p : List Int}, Dv d p → cont p = 0 := fun ⟨u, hu⟩ => cont_zero.2 (dg_zero.2 fun x => by rw [hu, dg_zero.1 hd]; simp)
      exact Dv.zero _ fun x => by rw [ev_ptim, z hp, z hq]; simp
    have hd : 0 < dg d := by omega
    have hdp : Dv (pprim d) d := ⟨[scont d], fun x => by rw [pprim_ev]; simp only [pev]; grind⟩
    have h1 := (h (pprim d) (pprim_cont hd)).2 ⟨(prim_dv (pprim_cont hd)).2 (hdp.trans hp), (prim_dv (pprim_cont hd)).2 (hdp.trans hq)⟩
    obtain ⟨u, hu⟩ := h1
    have hc : cont d ∣ Nat.gcd (cont p) (cont q) := Nat.dvd_gcd hp.cnt hq.cnt
    obtain ⟨s, hs⟩ : scont d ∣ (Nat.gcd (cont p) (cont q) : Nat) := by rw [← Int.natAbs_dvd, scont_natAbs]; exact Int.natCast_dvd_natCast.2 hc
    exact ⟨ptim s u, fun x => by rw [ev_ptim, ev_ptim, hu, hs, pprim_ev d]; grind⟩
  · have e : ld (ptim (Nat.gcd (cont p) (cont q) : Nat) a) = if Nat.gcd (cont p) (cont q) = 0 then 0 else (Nat.gcd (cont p) (cont q) : Nat) * ld a := by
      by_cases hg : Nat.gcd (cont p) (cont q) = 0
      · rw [if_pos hg]
        unfold ld; rw [co_ptim, hg]; simp
      · rw [if_neg hg]
        have e : ∀ x, pev (ptim (Nat.gcd (cont p) (cont q) : Nat) a) x = pev [((Nat.gcd (cont p) (cont q) : Nat) : Int)] x * pev a x := fun x => by rw [ev_ptim]; simp [pev]
        have h2 : dg [((Nat.gcd (cont p) (cont q) : Nat) : Int)] = 1 := by simp only [dg, nrm]; rw [if_neg (by omega)]; rfl
        have h3 : ld [((Nat.gcd (cont p) (cont q) : Nat) : Int)] = (Nat.gcd (cont p) (cont q) : Nat) := by unfold ld; rw [h2]; rfl
        rw [(mul_dg e (by omega) (by omega)).2, h3]
    rw [e]
    split
    · exact Int.le_refl _
    · exact Int.mul_nonneg (Int.natCast_nonneg _) (Int.le_of_lt ha2)
end Go.Proofs.YtdnjahdppgjmlaaGreat

namespace Go.Proofs.YtdnjahdppgjmlaaGreat
open Go.RowKit
theorem cont_snoc (l : List Int) (c : Int) : cont (l ++ [c]) = Nat.gcd (cont l) c.natAbs := by
  induction l with
  | nil => show Nat.gcd c.natAbs 0 = Nat.gcd 0 c.natAbs; simp
  | cons d l ih =>
    show Nat.gcd d.natAbs (cont (l ++ [c])) = Nat.gcd (Nat.gcd d.natAbs (cont l)) c.natAbs
    rw [ih, Nat.gcd_assoc]
theorem cont_sz {l : List Int} {k : Nat} (h : szR k l) : sz (cont l : Nat) k := by
  unfold sz
  rw [Int.natAbs_natCast]
  induction l with
  | nil => exact Nat.pow_pos (by decide)
  | cons c l ih =>
    have h1 := ih fun y hy => h y (.tail _ hy)
    have h2 := h c (.head _)
    show Nat.gcd c.natAbs (cont l) < _
    by_cases e : c.natAbs = 0
    · rw [e, Nat.gcd_zero_left]; exact h1
    · exact Nat.lt_of_le_of_lt (Nat.gcd_le_left _ (Nat.pos_of_ne_zero e)) h2
theorem szR.take {k : Nat} {l : List Int} (h : szR k l) (i : Nat) : szR k (l.take i) := fun x hx => h x (List.mem_of_mem_take hx)
theorem cont_take {l : List Int} {i : Nat} (h : i < l.length) : cont (l.take (i + 1)) = Nat.gcd (cont (l.take i)) (l.getD i 0).natAbs := by
  rw [take_snoc' 0 h, cont_snoc]
theorem jv_abs (x : Bool × List Nat) : (jv x).natAbs = nv x.2 := iv_abs _ _
theorem zGcdJ (v w : Value) (x y : Bool × List Nat) (hx : Lim x.2) (lx : x.2.length ≤ 137438953472) (hy : Lim y.2) (ly : y.2.length ≤ 137438953472) :
    Meets Tryz.prog 24 [v, w] [(v, J x), (w, J y)] (fun r os fs => os = [] ∧ fs = [(r, zd (Nat.gcd (jv x).natAbs (jv y).natAbs : Nat))]) := by
  rw [jv_abs, jv_abs]
  exact zgcd_meets v w x.1 y.1 x.2 y.2 hx hy lx ly
theorem zGcdZ (v w : Value) (x y : Int) (a b : Nat) (hx : sz x a) (hy : sz y b) (ha : a ≤ 137438953472) (hb : b ≤ 137438953472) :
    Meets Tryz.prog 24 [v, w] [(v, zd x), (w, zd y)] (fun r os fs => os = [] ∧ fs = [(r, zd (Nat.gcd x.natAbs y.natAbs : Nat))]) := by
  have h := zGcdJ v w (cn x) (cn y) (Lim_lims _) (Nat.le_trans hx.len ha) (Lim_lims _) (Nat.le_trans hy.len hb)
  rw [jv_cn, jv_cn] at h
  exact h
theorem zAbsZ (v : Value) (x : Int) (a : Nat) (hx : sz x a) (ha : a ≤ 137438953472) :
    Meets Tryz.prog 25 [v] [(v, zd x)] (fun r os fs => os = [] ∧ fs = [(r, zd (x.natAbs : Nat))]) := by
  have h := zabs_meets v (decide (x < 0)) (lims x.natAbs) (Lim_lims _) (Nat.le_trans hx.len ha)
  rw [nv_lims] at h
  exact h
theorem pContent_meets (v : Value) (p : Row) (k : Nat) (hp : Fit k p) (hk : k ≤ 137438953472) :
    Meets Tryz.prog 8 [v] [(v, V p)] (fun r os fs => os = [] ∧ fs = [(r, zd (cont (vv p) : Nat))]) := by
  have hs : ∀ i, sz (cont ((vv p).take i) : Nat) k := fun i => cont_sz (hp.szR.take i)
  have hst : ∀ i, i < p.length → Nat.gcd (cont ((vv p).take i)) (jv (p.getD i z0)).natAbs = cont ((vv p).take (i + 1)) := fun i hi => by
    rw [cont_take (by rw [vv_len]; exact hi), vv_get p i hi]
  have hlast : cont ((vv p).take p.length) = cont (vv p) := by rw [List.take_of_length_le (by rw [vv_len]; exact Nat.le_refl _)]
  have h00 : cont ((vv p).take 0) = 0 := rfl
  generalize hC : (fun i => cont ((vv p).take i)) = C
  have hs' : ∀ i, sz (C i : Nat) k := fun i => by rw [← hC]; exact hs i
  have hst' : ∀ i, i < p.length → Nat.gcd (C i) (jv (p.getD i z0)).natAbs = C (i + 1) := fun i hi => by rw [← hC]; exact hst i hi
  have hlast' : C p.length = cont (vv p) := by rw [← hC]; exact hlast
  have h0' : C 0 = 0 := by rw [← hC]; exact h00
  refine meets_of_vc Tryz.func8 (by kernel_rfl) rfl (by kernel_rfl) (Nat.le_of_ble_eq_true rfl) ?_
  refine alloc_rule (d := I false []) fun o ho => ?_
  refine build0 (da := .one (.bool false)) (db := U (lims 0)) (fun S w => ⟨[.bool false], [.slice none 0 0], rfl, rd_false S w, by rw [lims_zero]; exact rd_nil S w 1 _⟩) fun z => ?_
  refine alloc_rule (d := I false []) fun s hs1 => ?_
  refine store_box (d := zd 0) 0 rfl hs1 rfl (by kernel_rfl) ?_ ?_; exact Reads.fact (by repeat (first | exact List.Mem.head _ | apply List.Mem.tail))
  refine len_fact (by repeat (first | exact List.Mem.head _ | apply List.Mem.tail)) fun _ => ?_
  refine loop_rule (X := Nat) (fun i => ([(2, o), (3, s), (7, v), (8, .int .i64 (p.length : Nat)), (9, .int .i64 (i : Nat))], [own1 s 2 1 (fun _ => zd (C i : Nat)), own1 o 2 1 (fun _ => I false [])], [(v, V p)])) (fun i => i ≤ p.length) (fun i => p.length - i) rfl ?_ ?_
  · exact again 0 (Nat.zero_le _) trivial (by repeat (first | exact trivial | refine ⟨rfl, ?_⟩ | refine ⟨i64_eq (by first | omega | (simp only; omega)), ?_⟩ | refine ⟨u64_eq (by first | omega | (simp only; omega)), ?_⟩)) (Seals.trans (Seals.box0 (by rw [h0']; rfl)) (Seals.sub (by repeat (first | exact Sub.nil _ | refine Sub.cons (by repeat (first | exact List.Mem.head _ | apply List.Mem.tail)) ?_))))
  · rintro i hi
    refine cmp_split _ rfl (fun hlt => ?_) (fun hlt => ?_)
    · have hin : i < p.length := by omega
      have hsi := hs' i
      have hpi := hp.get i
      refine index_fact (by repeat (first | exact List.Mem.head _ | apply List.Mem.tail)) i rfl hin fun b1 => ?_
      refine load_fact (d := J (p.getD i z0)) (by repeat (first | exact List.Mem.head _ | apply List.Mem.tail)) (load_J _) fun y1 => ?_
      refine alloc_rule (d := I false []) fun q hq => ?_
      refine store_box (d := J (p.getD i z0)) 0 rfl hq rfl (by kernel_rfl) ?_ ?_; exact Reads.fact (by repeat (first | exact List.Mem.head _ | apply List.Mem.tail))
      refine load_box (d := zd (C i : Nat)) 1 rfl hs1 rfl (load_I _ _) fun y2 => ?_
      refine load_box (d := J (p.getD i z0)) 0 rfl hq rfl (load_J _) fun y3 => ?_
      have hg := zGcdJ y2 y3 (cn (C i : Nat)) (p.getD i z0) (Lim_lims _) (Nat.le_trans hsi.len hk) hpi.1 (by omega)
      rw [jv_cn, Int.natAbs_natCast, hst' i hin] at hg
      refine call_fn hg (Seals.refl _ _) (by repeat (first | exact Sub.nil _ | refine Sub.cons (by repeat (first | exact List.Mem.head _ | apply List.Mem.tail)) ?_)) ?_
      rintro y4 _ _ ⟨rfl, rfl⟩
      refine store_box (d := zd (C (i + 1) : Nat)) 1 rfl hs1 rfl (by kernel_rfl) ?_ ?_; exact Reads.fact (by repeat (first | exact List.Mem.head _ | apply List.Mem.tail))
      refine ar rfl (by first | exact ⟨by omega, by omega⟩ | (simp only [inK]; omega)) ?_
      exact again (i + 1) (by omega) (by simp only; omega) (by repeat (first | exact trivial | refine ⟨rfl, ?_⟩ | refine ⟨i64_eq (by first | omega | (simp only; omega)), ?_⟩ | refine ⟨u64_eq (by first | omega | (simp only; omega)), ?_⟩)) (Seals.trans (Seals.drop 0 _ _) (Seals.trans (Seals.box0 rfl) (Seals.sub (by repeat (first | exact Sub.nil _ | refine Sub.cons (by repeat (first | exact List.Mem.head _ | apply List.Mem.tail)) ?_)))))
    · have hip : i = p.length := by omega
      subst hip
      have hsn := hs' p.length
      rw [hlast'] at hsn
      rw [hlast']
      have hab := fun y => zAbsZ y _ _ hsn hk
      simp only [Int.natAbs_natCast] at hab
      refine load_box (d := zd (cont (vv p) : Nat)) 0 rfl hs1 rfl (load_I _ _) fun y1 => ?_
      refine call_fn (hab y1) (Seals.refl _ _) (by repeat (first | exact Sub.nil _ | refine Sub.cons (by repeat (first | exact List.Mem.head _ | apply List.Mem.tail)) ?_)) ?_
      rintro y2 _ _ ⟨rfl, rfl⟩
      refine store_box (d := zd (cont (vv p) : Nat)) 1 rfl ho rfl (by kernel_rfl) ?_ ?_; exact Reads.fact (by repeat (first | exact List.Mem.head _ | apply List.Mem.tail))
      refine load_box (d := zd (cont (vv p) : Nat)) 1 rfl ho rfl (load_I _ _) fun r => ?_
      exact fin ⟨rfl, rfl⟩ (Seals.trans (Seals.drop 0 _ _) (Seals.trans (Seals.drop 0 _ _) (Seals.sub (by repeat (first | exact Sub.nil _ | refine Sub.cons (by repeat (first | exact List.Mem.head _ | apply List.Mem.tail)) ?_)))))
/-- Content, over what the caller owns. -/
theorem content_call {K : Cont} {os : List Own} {fs : List Fact} (pos : Nat) {v : Value} {l : List Int} {k : Nat} (h : nthOwn os pos = some (ownL 2 J z0 v (l.map cn))) (hs : isSl v) (hp : szR k l) (hk : k ≤ 137438953472)
    (kk : ∀ r, K r os ((r, zd (cont l : Nat)) :: fs)) : CallK Tryz.prog false (.func (.func 8) #[] #[]) [v] os fs K := by
  have hs0 : ∀ i, sz (cont (l.take i) : Nat) k := fun i => cont_sz (hp.take i)
  have hst : ∀ i, i < l.length → Nat.gcd (cont (l.take i)) (l.getD i 0).natAbs = cont (l.take (i + 1)) := fun i hi => by
    rw [cont_take hi]
  have hlast : cont (l.take l.length) = cont l := by rw [List.take_of_length_le (Nat.le_refl _)]
  have h00 : cont (l.take 0) = 0 := rfl
  generalize hC : (fun i => cont (l.take i)) = C
  have hs' : ∀ i, sz (C i : Nat) k := fun i => by rw [← hC]; exact hs0 i
  have hst' : ∀ i, i < l.length → Nat.gcd (C i) (l.getD i 0).natAbs = C (i + 1) := fun i hi => by rw [← hC]; exact hst i hi
  have hlast' : C l.length = cont l := by rw [← hC]; exact hlast
  have h0' : C 0 = 0 := by rw [← hC]; exact h00
  have hml : (l.map cn).length = l.length := List.length_map _
  refine call_inline Tryz.func8 (by kernel_rfl) rfl (by kernel_rfl) (Nat.le_of_ble_eq_true rfl) ?_
  refine alloc_rule (d := I false []) fun o ho => ?_
  refine build0 (da := .one (.bool false)) (db := U (lims 0)) (fun S w => ⟨[.bool false], [.slice none 0 0], rfl, rd_false S w, by rw [lims_zero]; exact rd_nil S w 1 _⟩) fun z => ?_
  refine alloc_rule (d := I false []) fun s hs1 => ?_
  refine store_box (d := zd 0) 0 rfl hs1 rfl (by kernel_rfl) ?_ ?_; exact Reads.fact (by repeat (first | exact List.Mem.head _ | apply List.Mem.tail))
  refine len_own (pos + 2) h hs fun _ => ?_
  refine loop_rule (X := Nat) (fun i => ([(2, o), (3, s), (7, v), (8, .int .i64 ((l.map cn).length : Nat)), (9, .int .i64 (i : Nat))], own1 s 2 1 (fun _ => zd (C i : Nat)) :: own1 o 2 1 (fun _ => I false []) :: os, fs)) (fun i => i ≤ l.length) (fun i => l.length - i) rfl ?_ ?_
  · exact again 0 (Nat.zero_le _) trivial (by repeat (first | exact trivial | refine ⟨rfl, ?_⟩ | refine ⟨i64_eq (by first | omega | (simp only; omega)), ?_⟩ | refine ⟨u64_eq (by first | omega | (simp only; omega)), ?_⟩)) (Seals.trans (Seals.box0 (by rw [h0']; rfl)) (Seals.sub (fun F hF => by repeat (first | exact hF | apply List.Mem.tail))))
  · rintro i hi
    refine cmp_split _ rfl (fun hlt => ?_) (fun hlt => ?_)
    · have hin : i < l.length := by omega
      have hsi := hs' i
      have hpi := hp.get i
      refine index_elem (pos + 2) h hs i rfl (by omega) ?_
      refine load_elem' (d := zd (l.getD i 0)) (pos + 2) h i (by omega) (by rw [map_cn_get hin]; rfl) (load_I _ _) fun y1 => ?_
      refine alloc_rule (d := I false []) fun q hq => ?_
      refine store_box (d := zd (l.getD i 0)) 0 rfl hq rfl (by kernel_rfl) ?_ ?_; exact Reads.fact (by repeat (first | exact List.Mem.head _ | apply List.Mem.tail))
      refine load_box (d := zd (C i : Nat)) 1 rfl hs1 rfl (load_I _ _) fun y2 => ?_
      refine load_box (d := zd (l.getD i 0)) 0 rfl hq rfl (load_I _ _) fun y3 => ?_
      have hg := zGcdZ y2 y3 _ _ _ _ hsi hpi hk hk
      rw [Int.natAbs_natCast, hst' i hin] at hg
      refine call_fn hg (Seals.refl _ _) (by repeat (first | exact Sub.nil _ | refine Sub.cons (by repeat (first | exact List.Mem.head _ | apply List.Mem.tail)) ?_)) ?_
      rintro y4 _ _ ⟨rfl, rfl⟩
      refine store_box (d := zd (C (i + 1) : Nat)) 1 rfl hs1 rfl (by kernel_rfl) ?_ ?_; exact Reads.fact (by repeat (first | exact List.Mem.head _ | apply List.Mem.tail))
      refine ar rfl (by first | exact ⟨by omega, by omega⟩ | (simp only [inK]; omega)) ?_
      exact again (i + 1) (by omega) (by simp only; omega) (by repeat (first | exact trivial | refine ⟨rfl, ?_⟩ | refine ⟨i64_eq (by first | omega | (simp only; omega)), ?_⟩ | refine ⟨u64_eq (by first | omega | (simp only; omega)), ?_⟩)) (Seals.trans (Seals.drop 0 _ _) (Seals.trans (Seals.box0 rfl) (Seals.sub (fun F hF => by repeat (first | exact hF | apply List.Mem.tail)))))
    · have hip : i = l.length := by omega
      subst hip
      have hsn := hs' l.length
      rw [hlast'] at hsn
      rw [hlast']
      have hab := fun y => zAbsZ y _ _ hsn hk
      simp only [Int.natAbs_natCast] at hab
      refine load_box (d := zd (cont l : Nat)) 0 rfl hs1 rfl (load_I _ _) fun y1 => ?_
      refine call_fn (hab y1) (Seals.refl _ _) (by repeat (first | exact Sub.nil _ | refine Sub.cons (by repeat (first | exact List.Mem.head _ | apply List.Mem.tail)) ?_)) ?_
      rintro y2 _ _ ⟨rfl, rfl⟩
      refine store_box (d := zd (cont l : Nat)) 1 rfl ho rfl (by kernel_rfl) ?_ ?_; exact Reads.fact (by repeat (first | exact List.Mem.head _ | apply List.Mem.tail))
      refine load_box (d := zd (cont l : Nat)) 1 rfl ho rfl (load_I _ _) fun r => ?_
      exact fin (kk r) (Seals.trans (Seals.drop 0 _ _) (Seals.trans (Seals.drop 0 _ _) (Seals.sub (fun F hF => by
        rcases List.mem_cons.1 hF with rfl | hF
        · exact List.Mem.head _
        · repeat (first | exact hF | apply List.Mem.tail)))))
/-- lead, over what the caller owns. -/
theorem lead_call {K : Cont} {os : List Own} {fs : List Fact} (pos : Nat) {v : Value} {l : List Int} (h : nthOwn os pos = some (ownL 2 J z0 v (l.map cn))) (hs : isSl v)
    (kk : ∀ r, K r os ((r, zd (l.getD (l.length - 1) 0)) :: fs)) : CallK Tryz.prog false (.func (.func 32) #[] #[]) [v] os fs K := by
  have hml : (l.map cn).length = l.length := List.length_map _
  refine call_inline Tryz.func32 (by kernel_rfl) rfl (by kernel_rfl) (Nat.le_of_ble_eq_true rfl) ?_
  refine alloc_rule (d := I false []) fun o ho => ?_
  refine len_own (pos + 1) h hs fun _ => ?_
  refine cmp_split _ rfl (fun h0 => ?_) (fun h0 => ?_)
  · have h0 : l = [] := List.length_eq_zero_iff.1 (by omega)
    subst h0
    refine build0 (da := .one (.bool false)) (db := U (lims 0)) (fun S w => ⟨[.bool false], [.slice none 0 0], rfl, rd_false S w, by rw [lims_zero]; exact rd_nil S w 1 _⟩) fun z => ?_
    refine store_box (d := zd 0) 0 rfl ho rfl (by kernel_rfl) ?_ ?_; exact Reads.fact (by repeat (first | exact List.Mem.head _ | apply List.Mem.tail))
    refine load_box (d := zd 0) 0 rfl ho rfl (load_I _ _) fun r => ?_
    exact fin (kk r) (Seals.trans (Seals.drop 0 _ _) (Seals.sub (fun F hF => by
        rcases List.mem_cons.1 hF with rfl | hF
        · exact List.Mem.head _
        · repeat (first | exact hF | apply List.Mem.tail))))
  · refine len_own (pos + 1) h hs fun _ => ?_
    refine ar rfl (by first | exact ⟨by omega, by omega⟩ | (simp only [inK]; omega)) ?_
    refine index_elem (pos + 1) h hs (l.length - 1) (by omega) (by omega) ?_
    refine load_elem' (d := zd (l.getD (l.length - 1) 0)) (pos + 1) h (l.length - 1) (by omega) (by rw [map_cn_get (by omega)]; rfl) (load_I _ _) fun y1 => ?_
    refine store_box (d := zd (l.getD (l.length - 1) 0)) 0 rfl ho rfl (by kernel_rfl) ?_ ?_; exact Reads.fact (by repeat (first | exact List.Mem.head _ | apply List.Mem.tail))
    refine load_box (d := zd (l.getD (l.length - 1) 0)) 0 rfl ho rfl (load_I _ _) fun r => ?_
    exact fin (kk r) (Seals.trans (Seals.drop 0 _ _) (Seals.sub (fun F hF => by
        rcases List.mem_cons.1 hF with rfl | hF
        · exact List.Mem.head _
        · repeat (first | exact hF | apply List.Mem.tail))))
end Go.Proofs.YtdnjahdppgjmlaaGreat

namespace Go.Proofs.YtdnjahdppgjmlaaGreat
open Go.RowKit
theorem sign_lt {x : Int} : x.sign < 0 ↔ x < 0 := by
  rcases Int.lt_trichotomy x 0 with h | h | h
  · rw [Int.sign_eq_neg_one_of_neg h]; omega
  · rw [h]; simp
  · rw [Int.sign_eq_one_of_pos h]; omega
theorem ld_nrm (l : List Int) : (nrm l).getD ((nrm l).length - 1) 0 = ld l := by rw [co_nrm]; rfl
theorem cont_nrm (l : List Int) : cont (nrm l) = cont l := cont_ext (ev_nrm l)
theorem own_told {A : List Int} {v : Value} {os : List Own} {fs : List Fact} {e : Nat → Dat} (he : ∀ i, i < A.length → zd (A.getD i 0) = e i) : Seals (ownL 2 J z0 v (A.map cn) :: os) fs (own1 v 2 A.length e :: os) fs :=
  Seals.own_cong (os := ownL 2 J z0 v (A.map cn) :: os) (fs := fs) 0 (n' := A.length) e rfl (by rw [List.length_map]) fun i hi => by
    rw [List.length_map] at hi
    rw [← he i hi, map_cn_get hi]; rfl
theorem div_s (A : List Int) (g : Int) (i y : Nat) : upd (fun y => zd (if y < i then A.getD y 0 / g else A.getD y 0)) i (zd (A.getD i 0 / g)) y = zd (if y < i + 1 then A.getD y 0 / g else A.getD y 0) :=
  upd_zd (G := fun y => if y < i then A.getD y 0 / g else A.getD y 0) (H := fun y => if y < i + 1 then A.getD y 0 / g else A.getD y 0) (by
    rw [if_pos (by omega)]) (fun y hy => by
    by_cases h2 : y < i
    · rw [if_pos h2, if_pos (by omega)]
    · rw [if_neg h2, if_neg (by omega)]) y
theorem lst_map (A : List Int) (f : Int → Int) : lst A.length (fun i => f (A.getD i 0)) = A.map f := by
  refine List.ext_getElem? fun i => ?_
  by_cases h : i < A.length
  · simp [lst, h]
  · simp [lst, h]
theorem pPrimitive_meets (v : Value) (p : Row) (k : Nat) (hp : Fit k p) (hk : k ≤ 137438953472) (lp : p.length ≤ 1073741824) :
    Meets Tryz.prog 11 [v] [(v, V p)] (fun r os fs => os = [] ∧ fs = [(r, vd (pprim (vv p)))]) := by
  have h1 := pNormO_meets v p (hp.mono (by omega)) (by omega)
  have sa := hp.szR.nrm
  have la : (nrm (vv p)).length ≤ p.length := Nat.le_trans (nrm_length_le _) (by rw [vv_len]; exact Nat.le_refl _)
  have hcn := cont_nrm (vv p)
  have hld := ld_nrm (vv p)
  have hdef : pprim (vv p) = nrm ((nrm (vv p)).map fun y => y / scont (vv p)) := rfl
  have hsc : scont (vv p) = if ld (vv p) < 0 then - (cont (vv p) : Int) else cont (vv p) := rfl
  have hne : 0 < (nrm (vv p)).length → scont (vv p) ≠ 0 := fun h e => by
    have h2 := scont_natAbs (vv p)
    rw [e] at h2
    have h3 := cont_zero.1 h2.symm
    unfold dg at h3; omega
  have hgs : sz (scont (vv p)) k := by
    unfold sz
    rw [scont_natAbs]
    have := cont_sz hp.szR
    unfold sz at this
    rwa [Int.natAbs_natCast] at this
  have hcs : sz (cont (vv p) : Nat) k := cont_sz hp.szR
  rw [hdef]
  generalize hA : nrm (vv p) = A at *
  generalize hg : scont (vv p) = g at *
  have hml : (A.map cn).length = A.length := List.length_map _
  have hcv : ∀ y, y < A.length → J ((A.map cn).getD y z0) = zd (if y < 0 then A.getD y 0 / g else A.getD y 0) := fun y hy => by rw [map_cn_get hy, if_neg (Nat.not_lt_zero _)]; rfl
  have hn : ∀ r, Meets Tryz.prog 30 [r] [(r, vd (lst A.length fun y => A.getD y 0 / g))] (fun r os fs => os = [] ∧ fs = [(r, vd (nrm (A.map fun y => y / g)))]) := fun r => by
    rw [← lst_map A fun y => y / g]
    exact pNormT r (lst A.length fun y => A.getD y 0 / g) ((szR.lst fun i _ => sz_div (sa.get i)).mono hk) (by rw [lst_len]; omega)
  refine meets_of_vc Tryz.func11 (by kernel_rfl) rfl (by kernel_rfl) (Nat.le_of_ble_eq_true rfl) ?_
  refine call_fn h1 (Seals.refl _ _) (by repeat (first | exact Sub.nil _ | refine Sub.cons (by repeat (first | exact List.Mem.head _ | apply List.Mem.tail)) ?_)) ?_
  rintro r _ _ ⟨hr, rfl, rfl⟩
  refine content_call 0 rfl hr sa hk fun x1 => ?_
  rw [hcn]
  refine alloc_rule (d := I false []) fun c hc => ?_
  refine store_box (d := zd (cont (vv p) : Nat)) 0 rfl hc rfl (by kernel_rfl) ?_ ?_; exact Reads.fact (by repeat (first | exact List.Mem.head _ | apply List.Mem.tail))
  refine lead_call 1 rfl hr fun x2 => ?_
  rw [hld]
  refine call_fn (zSignZ x2 (ld (vv p)) k (by rw [← hld]; exact sa.get _) hk) (Seals.refl _ _) (by repeat (first | exact Sub.nil _ | refine Sub.cons (by repeat (first | exact List.Mem.head _ | apply List.Mem.tail)) ?_)) ?_
  rintro _ _ _ ⟨rfl, rfl, rfl⟩
  refine cmp_split _ rfl (fun hz => ?_) (fun hz => ?_)
  · rw [if_pos (sign_lt.1 hz)] at hsc
    have hneg := fun y => zNegZ y _ k hcs hk
    rw [← hsc] at hneg
    refine load_box (d := zd (cont (vv p) : Nat)) 0 rfl hc rfl (load_I _ _) fun y1 => ?_
    refine call_fn (hneg y1) (Seals.refl _ _) (by repeat (first | exact Sub.nil _ | refine Sub.cons (by repeat (first | exact List.Mem.head _ | apply List.Mem.tail)) ?_)) ?_
    rintro y2 _ _ ⟨rfl, rfl⟩
    refine store_box (d := zd g) 0 rfl hc rfl (by kernel_rfl) ?_ ?_; exact Reads.fact (by repeat (first | exact List.Mem.head _ | apply List.Mem.tail))
    refine len_own 1 rfl hr fun _ => ?_
    refine loop_rule (X := Nat) (fun i => ([(3, r), (4, c), (17, .int .i64 ((A.map cn).length : Nat)), (18, .int .i64 (i : Nat))], [own1 c 2 1 (fun _ => zd g), own1 r 2 A.length (fun y => zd (if y < i then A.getD y 0 / g else A.getD y 0))], [])) (fun i => i ≤ A.length) (fun i => A.length - i) rfl ?_ ?_
    · exact again 0 (Nat.zero_le _) trivial (by repeat (first | exact trivial | refine ⟨rfl, ?_⟩ | refine ⟨i64_eq (by first | omega | (simp only; omega)), ?_⟩ | refine ⟨u64_eq (by first | omega | (simp only; omega)), ?_⟩)) (Seals.trans (Seals.box0 rfl) (Seals.trans (Seals.own_cong (os := [_, ownL 2 J z0 r (A.map cn)]) 1 (n' := A.length) (fun y => zd (if y < 0 then A.getD y 0 / g else A.getD y 0)) rfl (by rw [List.length_map]) fun y hy => hcv y (by rw [List.length_map] at hy; exact hy)) (Seals.sub (by repeat (first | exact Sub.nil _ | refine Sub.cons (by repeat (first | exact List.Mem.head _ | apply List.Mem.tail)) ?_)))))
    · rintro i hi
      refine cmp_split _ rfl (fun hlt => ?_) (fun hlt => ?_)
      · have hin : i < A.length := by omega
        have hai := sa.get i
        have hg0 := hne (by omega)
        refine draw_ord [0, 1, 2, 3, 4, 5, 6, 7, 8, 9, 12, 13, 10, 11] (by kernel_rfl) ?_
        refine ord_split 10 13 (by kernel_rfl) (by kernel_rfl) (by kernel_rfl) ?_ ?_
        · refine ord_split 11 13 (by kernel_rfl) (by kernel_rfl) (by kernel_rfl) ?_ ?_
          ·
            refine ord_go [0, 1, 2, 3, 4, 5, 6, 7, 8, 9, 10, 11, 12, 13] (by kernel_rfl) (by kernel_rfl) ?_
            refine index_elem 1 rfl hr i rfl (by omega) ?_
            refine load_elem' (d := zd (A.getD i 0)) 1 rfl i (by omega) (by rw [if_neg (by omega)]) (load_I _ _) fun y1 => ?_
            refine load_box (d := zd g) 0 rfl hc rfl (load_I _ _) fun y2 => ?_
            refine call_fn (zDivModZ y1 y2 _ _ _ _ hai hgs (by omega) (by omega) hg0) (Seals.refl _ _) (by repeat (first | exact Sub.nil _ | refine Sub.cons (by repeat (first | exact List.Mem.head _ | apply List.Mem.tail)) ?_)) ?_
            rintro _ _ _ ⟨rfl, y3, y4, rfl, rfl⟩
            refine index_elem 1 rfl hr i rfl (by omega) ?_
            refine StoreK.post (store_elem (d := zd (A.getD i 0 / g)) 1 rfl i (by omega) rfl (by kernel_rfl) (Reads.fact (by repeat (first | exact List.Mem.head _ | apply List.Mem.tail))) ⟨_, _, Seals.own_cong (os := [_, _]) 1 (fun y => zd (if y < i + 1 then A.getD y 0 / g else A.getD y 0)) rfl rfl (fun y _ => div_s A g i y), ?_⟩)
            refine ar rfl (by first | exact ⟨by omega, by omega⟩ | (simp only [inK]; omega)) ?_
            exact again (i + 1) (by omega) (by simp only; omega) (by repeat (first | exact trivial | refine ⟨rfl, ?_⟩ | refine ⟨i64_eq (by first | omega | (simp only; omega)), ?_⟩ | refine ⟨u64_eq (by first | omega | (simp only; omega)), ?_⟩)) (Seals.trans (Seals.box0 rfl) (Seals.sub (by repeat (first | exact Sub.nil _ | refine Sub.cons (by repeat (first | exact List.Mem.head _ | apply List.Mem.tail)) ?_))))
          ·
            refine ord_go [0, 1, 2, 3, 4, 5, 6, 7, 8, 9, 10, 12, 13, 11] (by kernel_rfl) (by kernel_rfl) ?_
            refine index_elem 1 rfl hr i rfl (by omega) ?_
            refine load_elem' (d := zd (A.getD i 0)) 1 rfl i (by omega) (by rw [if_neg (by omega)]) (load_I _ _) fun y1 => ?_
            refine load_box (d := zd g) 0 rfl hc rfl (load_I _ _) fun y2 => ?_
            refine call_fn (zDivModZ y1 y2 _ _ _ _ hai hgs (by omega) (by omega) hg0) (Seals.refl _ _) (by repeat (first | exact Sub.nil _ | refine Sub.cons (by repeat (first | exact List.Mem.head _ | apply List.Mem.tail)) ?_)) ?_
            rintro _ _ _ ⟨rfl, y3, y4, rfl, rfl⟩
            refine index_elem 1 rfl hr i rfl (by omega) ?_
            refine StoreK.post (store_elem (d := zd (A.getD i 0 / g)) 1 rfl i (by omega) rfl (by kernel_rfl) (Reads.fact (by repeat (first | exact List.Mem.head _ | apply List.Mem.tail))) ⟨_, _, Seals.own_cong (os := [_, _]) 1 (fun y => zd (if y < i + 1 then A.getD y 0 / g else A.getD y 0)) rfl rfl (fun y _ => div_s A g i y), ?_⟩)
            refine ar rfl (by first | exact ⟨by omega, by omega⟩ | (simp only [inK]; omega)) ?_
            exact again (i + 1) (by omega) (by simp only; omega) (by repeat (first | exact trivial | refine ⟨rfl, ?_⟩ | refine ⟨i64_eq (by first | omega | (simp only; omega)), ?_⟩ | refine ⟨u64_eq (by first | omega | (simp only; omega)), ?_⟩)) (Seals.trans (Seals.box0 rfl) (Seals.sub (by repeat (first | exact Sub.nil _ | refine Sub.cons (by repeat (first | exact List.Mem.head _ | apply List.Mem.tail)) ?_))))
        · refine ord_split 11 13 (by kernel_rfl) (by kernel_rfl) (by kernel_rfl) ?_ ?_
          ·
            refine ord_go [0, 1, 2, 3, 4, 5, 6, 7, 8, 9, 11, 12, 13, 10] (by kernel_rfl) (by kernel_rfl) ?_
            refine index_elem 1 rfl hr i rfl (by omega) ?_
            refine load_elem' (d := zd (A.getD i 0)) 1 rfl i (by omega) (by rw [if_neg (by omega)]) (load_I _ _) fun y1 => ?_
            refine load_box (d := zd g) 0 rfl hc rfl (load_I _ _) fun y2 => ?_
            refine call_fn (zDivModZ y1 y2 _ _ _ _ hai hgs (by omega) (by omega) hg0) (Seals.refl _ _) (by repeat (first | exact Sub.nil _ | refine Sub.cons (by repeat (first | exact List.Mem.head _ | apply List.Mem.tail)) ?_)) ?_
            rintro _ _ _ ⟨rfl, y3, y4, rfl, rfl⟩
            refine index_elem 1 rfl hr i rfl (by omega) ?_
            refine StoreK.post (store_elem (d := zd (A.getD i 0 / g)) 1 rfl i (by omega) rfl (by kernel_rfl) (Reads.fact (by repeat (first | exact List.Mem.head _ | apply List.Mem.tail))) ⟨_, _, Seals.own_cong (os := [_, _]) 1 (fun y => zd (if y < i + 1 then A.getD y 0 / g else A.getD y 0)) rfl rfl (fun y _ => div_s A g i y), ?_⟩)
            refine ar rfl (by first | exact ⟨by omega, by omega⟩ | (simp only [inK]; omega)) ?_
            exact again (i + 1) (by omega) (by simp only; omega) (by repeat (first | exact trivial | refine ⟨rfl, ?_⟩ | refine ⟨i64_eq (by first | omega | (simp only; omega)), ?_⟩ | refine ⟨u64_eq (by first | omega | (simp only; omega)), ?_⟩)) (Seals.trans (Seals.box0 rfl) (Seals.sub (by repeat (first | exact Sub.nil _ | refine Sub.cons (by repeat (first | exact List.Mem.head _ | apply List.Mem.tail)) ?_))))
          ·
            refine ord_go [0, 1, 2, 3, 4, 5, 6, 7, 8, 9, 12, 13, 10, 11] (by kernel_rfl) (by kernel_rfl) ?_
            refine index_elem 1 rfl hr i rfl (by omega) ?_
            refine load_elem' (d := zd (A.getD i 0)) 1 rfl i (by omega) (by rw [if_neg (by omega)]) (load_I _ _) fun y1 => ?_
            refine load_box (d := zd g) 0 rfl hc rfl (load_I _ _) fun y2 => ?_
            refine call_fn (zDivModZ y1 y2 _ _ _ _ hai hgs (by omega) (by omega) hg0) (Seals.refl _ _) (by repeat (first | exact Sub.nil _ | refine Sub.cons (by repeat (first | exact List.Mem.head _ | apply List.Mem.tail)) ?_)) ?_
            rintro _ _ _ ⟨rfl, y3, y4, rfl, rfl⟩
            refine index_elem 1 rfl hr i rfl (by omega) ?_
            refine StoreK.post (store_elem (d := zd (A.getD i 0 / g)) 1 rfl i (by omega) rfl (by kernel_rfl) (Reads.fact (by repeat (first | exact List.Mem.head _ | apply List.Mem.tail))) ⟨_, _, Seals.own_cong (os := [_, _]) 1 (fun y => zd (if y < i + 1 then A.getD y 0 / g else A.getD y 0)) rfl rfl (fun y _ => div_s A g i y), ?_⟩)
            refine ar rfl (by first | exact ⟨by omega, by omega⟩ | (simp only [inK]; omega)) ?_
            exact again (i + 1) (by omega) (by simp only; omega) (by repeat (first | exact trivial | refine ⟨rfl, ?_⟩ | refine ⟨i64_eq (by first | omega | (simp only; omega)), ?_⟩ | refine ⟨u64_eq (by first | omega | (simp only; omega)), ?_⟩)) (Seals.trans (Seals.box0 rfl) (Seals.sub (by repeat (first | exact Sub.nil _ | refine Sub.cons (by repeat (first | exact List.Mem.head _ | apply List.Mem.tail)) ?_))))
      · have hip : i = A.length := by omega
        subst hip
        refine call_fn (hn r) (Seals.trans (Seals.drop 0 _ _) (Seals.told (g := fun y => A.getD y 0 / g) hr fun y hy => by rw [if_pos hy])) (by repeat (first | exact Sub.nil _ | refine Sub.cons (by repeat (first | exact List.Mem.head _ | apply List.Mem.tail)) ?_)) ?_
        rintro u _ _ ⟨rfl, rfl⟩
        exact fin ⟨rfl, rfl⟩ (Seals.sub (by repeat (first | exact Sub.nil _ | refine Sub.cons (by repeat (first | exact List.Mem.head _ | apply List.Mem.tail)) ?_)))
  · rw [if_neg fun h => hz (sign_lt.2 h)] at hsc
    rw [← hsc]
    refine len_own 1 rfl hr fun _ => ?_
    refine loop_rule (X := Nat) (fun i => ([(3, r), (4, c), (17, .int .i64 ((A.map cn).length : Nat)), (18, .int .i64 (i : Nat))], [own1 c 2 1 (fun _ => zd g), own1 r 2 A.length (fun y => zd (if y < i then A.getD y 0 / g else A.getD y 0))], [])) (fun i => i ≤ A.length) (fun i => A.length - i) rfl ?_ ?_
    · exact again 0 (Nat.zero_le _) trivial (by repeat (first | exact trivial | refine ⟨rfl, ?_⟩ | refine ⟨i64_eq (by first | omega | (simp only; omega)), ?_⟩ | refine ⟨u64_eq (by first | omega | (simp only; omega)), ?_⟩)) (Seals.trans (Seals.box0 rfl) (Seals.trans (Seals.own_cong (os := [_, ownL 2 J z0 r (A.map cn)]) 1 (n' := A.length) (fun y => zd (if y < 0 then A.getD y 0 / g else A.getD y 0)) rfl (by rw [List.length_map]) fun y hy => hcv y (by rw [List.length_map] at hy; exact hy)) (Seals.sub (by repeat (first | exact Sub.nil _ | refine Sub.cons (by repeat (first | exact List.Mem.head _ | apply List.Mem.tail)) ?_)))))
    · rintro i hi
      refine cmp_split _ rfl (fun hlt => ?_) (fun hlt => ?_)
      · have hin : i < A.length := by omega
        have hai := sa.get i
        have hg0 := hne (by omega)
        refine draw_ord [0, 1, 2, 3, 4, 5, 6, 7, 8, 9, 12, 13, 10, 11] (by kernel_rfl) ?_
        refine ord_split 10 13 (by kernel_rfl) (by kernel_rfl) (by kernel_rfl) ?_ ?_
        · refine ord_split 11 13 (by kernel_rfl) (by kernel_rfl) (by kernel_rfl) ?_ ?_
          ·
            refine ord_go [0, 1, 2, 3, 4, 5, 6, 7, 8, 9, 10, 11, 12, 13] (by kernel_rfl) (by kernel_rfl) ?_
            refine index_elem 1 rfl hr i rfl (by omega) ?_
            refine load_elem' (d := zd (A.getD i 0)) 1 rfl i (by omega) (by rw [if_neg (by omega)]) (load_I _ _) fun y1 => ?_
            refine load_box (d := zd g) 0 rfl hc rfl (load_I _ _) fun y2 => ?_
            refine call_fn (zDivModZ y1 y2 _ _ _ _ hai hgs (by omega) (by omega) hg0) (Seals.refl _ _) (by repeat (first | exact Sub.nil _ | refine Sub.cons (by repeat (first | exact List.Mem.head _ | apply List.Mem.tail)) ?_)) ?_
            rintro _ _ _ ⟨rfl, y3, y4, rfl, rfl⟩
            refine index_elem 1 rfl hr i rfl (by omega) ?_
            refine StoreK.post (store_elem (d := zd (A.getD i 0 / g)) 1 rfl i (by omega) rfl (by kernel_rfl) (Reads.fact (by repeat (first | exact List.Mem.head _ | apply List.Mem.tail))) ⟨_, _, Seals.own_cong (os := [_, _]) 1 (fun y => zd (if y < i + 1 then A.getD y 0 / g else A.getD y 0)) rfl rfl (fun y _ => div_s A g i y), ?_⟩)
            refine ar rfl (by first | exact ⟨by omega, by omega⟩ | (simp only [inK]; omega)) ?_
            exact again (i + 1) (by omega) (by simp only; omega) (by repeat (first | exact trivial | refine ⟨rfl, ?_⟩ | refine ⟨i64_eq (by first | omega | (simp only; omega)), ?_⟩ | refine ⟨u64_eq (by first | omega | (simp only; omega)), ?_⟩)) (Seals.trans (Seals.box0 rfl) (Seals.sub (by repeat (first | exact Sub.nil _ | refine Sub.cons (by repeat (first | exact List.Mem.head _ | apply List.Mem.tail)) ?_))))
          ·
            refine ord_go [0, 1, 2, 3, 4, 5, 6, 7, 8, 9, 10, 12, 13, 11] (by kernel_rfl) (by kernel_rfl) ?_
            refine index_elem 1 rfl hr i rfl (by omega) ?_
            refine load_elem' (d := zd (A.getD i 0)) 1 rfl i (by omega) (by rw [if_neg (by omega)]) (load_I _ _) fun y1 => ?_
            refine load_box (d := zd g) 0 rfl hc rfl (load_I _ _) fun y2 => ?_
            refine call_fn (zDivModZ y1 y2 _ _ _ _ hai hgs (by omega) (by omega) hg0) (Seals.refl _ _) (by repeat (first | exact Sub.nil _ | refine Sub.cons (by repeat (first | exact List.Mem.head _ | apply List.Mem.tail)) ?_)) ?_
            rintro _ _ _ ⟨rfl, y3, y4, rfl, rfl⟩
            refine index_elem 1 rfl hr i rfl (by omega) ?_
            refine StoreK.post (store_elem (d := zd (A.getD i 0 / g)) 1 rfl i (by omega) rfl (by kernel_rfl) (Reads.fact (by repeat (first | exact List.Mem.head _ | apply List.Mem.tail))) ⟨_, _, Seals.own_cong (os := [_, _]) 1 (fun y => zd (if y < i + 1 then A.getD y 0 / g else A.getD y 0)) rfl rfl (fun y _ => div_s A g i y), ?_⟩)
            refine ar rfl (by first | exact ⟨by omega, by omega⟩ | (simp only [inK]; omega)) ?_
            exact again (i + 1) (by omega) (by simp only; omega) (by repeat (first | exact trivial | refine ⟨rfl, ?_⟩ | refine ⟨i64_eq (by first | omega | (simp only; omega)), ?_⟩ | refine ⟨u64_eq (by first | omega | (simp only; omega)), ?_⟩)) (Seals.trans (Seals.box0 rfl) (Seals.sub (by repeat (first | exact Sub.nil _ | refine Sub.cons (by repeat (first | exact List.Mem.head _ | apply List.Mem.tail)) ?_))))
        · refine ord_split 11 13 (by kernel_rfl) (by kernel_rfl) (by kernel_rfl) ?_ ?_
          ·
            refine ord_go [0, 1, 2, 3, 4, 5, 6, 7, 8, 9, 11, 12, 13, 10] (by kernel_rfl) (by kernel_rfl) ?_
            refine index_elem 1 rfl hr i rfl (by omega) ?_
            refine load_elem' (d := zd (A.getD i 0)) 1 rfl i (by omega) (by rw [if_neg (by omega)]) (load_I _ _) fun y1 => ?_
            refine load_box (d := zd g) 0 rfl hc rfl (load_I _ _) fun y2 => ?_
            refine call_fn (zDivModZ y1 y2 _ _ _ _ hai hgs (by omega) (by omega) hg0) (Seals.refl _ _) (by repeat (first | exact Sub.nil _ | refine Sub.cons (by repeat (first | exact List.Mem.head _ | apply List.Mem.tail)) ?_)) ?_
            rintro _ _ _ ⟨rfl, y3, y4, rfl, rfl⟩
            refine index_elem 1 rfl hr i rfl (by omega) ?_
            refine StoreK.post (store_elem (d := zd (A.getD i 0 / g)) 1 rfl i (by omega) rfl (by kernel_rfl) (Reads.fact (by repeat (first | exact List.Mem.head _ | apply List.Mem.tail))) ⟨_, _, Seals.own_cong (os := [_, _]) 1 (fun y => zd (if y < i + 1 then A.getD y 0 / g else A.getD y 0)) rfl rfl (fun y _ => div_s A g i y), ?_⟩)
            refine ar rfl (by first | exact ⟨by omega, by omega⟩ | (simp only [inK]; omega)) ?_
            exact again (i + 1) (by omega) (by simp only; omega) (by repeat (first | exact trivial | refine ⟨rfl, ?_⟩ | refine ⟨i64_eq (by first | omega | (simp only; omega)), ?_⟩ | refine ⟨u64_eq (by first | omega | (simp only; omega)), ?_⟩)) (Seals.trans (Seals.box0 rfl) (Seals.sub (by repeat (first | exact Sub.nil _ | refine Sub.cons (by repeat (first | exact List.Mem.head _ | apply List.Mem.tail)) ?_))))
          ·
            refine ord_go [0, 1, 2, 3, 4, 5, 6, 7, 8, 9, 12, 13, 10, 11] (by kernel_rfl) (by kernel_rfl) ?_
            refine index_elem 1 rfl hr i rfl (by omega) ?_
            refine load_elem' (d := zd (A.getD i 0)) 1 rfl i (by omega) (by rw [if_neg (by omega)]) (load_I _ _) fun y1 => ?_
            refine load_box (d := zd g) 0 rfl hc rfl (load_I _ _) fun y2 => ?_
            refine call_fn (zDivModZ y1 y2 _ _ _ _ hai hgs (by omega) (by omega) hg0) (Seals.refl _ _) (by repeat (first | exact Sub.nil _ | refine Sub.cons (by repeat (first | exact List.Mem.head _ | apply List.Mem.tail)) ?_)) ?_
            rintro _ _ _ ⟨rfl, y3, y4, rfl, rfl⟩
            refine index_elem 1 rfl hr i rfl (by omega) ?_
            refine StoreK.post (store_elem (d := zd (A.getD i 0 / g)) 1 rfl i (by omega) rfl (by kernel_rfl) (Reads.fact (by repeat (first | exact List.Mem.head _ | apply List.Mem.tail))) ⟨_, _, Seals.own_cong (os := [_, _]) 1 (fun y => zd (if y < i + 1 then A.getD y 0 / g else A.getD y 0)) rfl rfl (fun y _ => div_s A g i y), ?_⟩)
            refine ar rfl (by first | exact ⟨by omega, by omega⟩ | (simp only [inK]; omega)) ?_
            exact again (i + 1) (by omega) (by simp only; omega) (by repeat (first | exact trivial | refine ⟨rfl, ?_⟩ | refine ⟨i64_eq (by first | omega | (simp only; omega)), ?_⟩ | refine ⟨u64_eq (by first | omega | (simp only; omega)), ?_⟩)) (Seals.trans (Seals.box0 rfl) (Seals.sub (by repeat (first | exact Sub.nil _ | refine Sub.cons (by repeat (first | exact List.Mem.head _ | apply List.Mem.tail)) ?_))))
      · have hip : i = A.length := by omega
        subst hip
        refine call_fn (hn r) (Seals.trans (Seals.drop 0 _ _) (Seals.told (g := fun y => A.getD y 0 / g) hr fun y hy => by rw [if_pos hy])) (by repeat (first | exact Sub.nil _ | refine Sub.cons (by repeat (first | exact List.Mem.head _ | apply List.Mem.tail)) ?_)) ?_
        rintro u _ _ ⟨rfl, rfl⟩
        exact fin ⟨rfl, rfl⟩ (Seals.sub (by repeat (first | exact Sub.nil _ | refine Sub.cons (by repeat (first | exact List.Mem.head _ | apply List.Mem.tail)) ?_)))
theorem pPrimitiveT (v : Value) (p : List Int) (k : Nat) (hp : szR k p) (hk : k ≤ 137438953472) (lp : p.length ≤ 1073741824) :
    Meets Tryz.prog 11 [v] [(v, vd p)] (fun r os fs => os = [] ∧ fs = [(r, vd (pprim p))]) := by
  have h := pPrimitive_meets v (p.map cn) k hp.fit hk (by rw [List.length_map]; exact lp)
  rw [vv_cn] at h
  exact h
end Go.Proofs.YtdnjahdppgjmlaaGreat

namespace Go.Proofs.YtdnjahdppgjmlaaGreat
open Go.RowKit
theorem ld_nm {l : List Int} (h : Nm l) : ld l = l.getD (l.length - 1) 0 := by unfold ld; rw [dg_nm h]
theorem pLeadN (v : Value) (l : List Int) (hl : Nm l) (h0 : 0 < l.length) :
    Meets Tryz.prog 32 [v] [(v, vd l)] (fun r os fs => os = [] ∧ fs = [(r, zd (ld l))]) := by
  rw [ld_nm hl]
  exact pLeadT v l (List.length_pos_iff.1 h0)
/-- What Rest tells: t and r with L^d p = q t + r, r of a lesser degree. -/
structure RestSpec (p q t r : List Int) : Prop where
  tn : Nm t
  rn : Nm r
  low : dg r < dg q
  eq : ∀ x, ld q ^ (dg p + 1 - dg q) * pev p x = pev q x * pev t x + pev r x
theorem RestSpec.unique {p q t r t' r' : List Int} (h : RestSpec p q t r) (h' : RestSpec p q t' r') : t = t' ∧ r = r' := by
  have := rest_unique h.low h'.low fun x => by rw [← h.eq, ← h'.eq]
  exact ⟨h.tn.ext h'.tn this.1, h.rn.ext h'.rn this.2⟩
def rT (D T R : List Int) : List Int := padd (prai (ld D) 0 T) (prai (ld R) (R.length - D.length) [1])
def rR (D R : List Int) : List Int := psub (prai (ld D) 0 R) (prai (ld R) (R.length - D.length) D)
theorem rest_step {D T R P : List Int} {j : Nat} (hD : Nm D) (hR : Nm R) (h0 : 0 < D.length) (hl : D.length ≤ R.length) (e : ∀ x, ld D ^ j * pev P x = pev D x * pev T x + pev R x) :
    (∀ x, ld D ^ (j + 1) * pev P x = pev D x * pev (rT D T R) x + pev (rR D R) x) ∧ (rR D R).length < R.length := by
  constructor
  · intro x
    have h := e x
    rw [rT, rR, ev_padd, ev_psub, ev_prai, ev_prai, ev_prai, ev_prai, Int.pow_succ]
    simp only [pev, Int.pow_zero] at h ⊢
    grind
  · have := red_dg (p := R) (q := D) (by rw [dg_nm hD]; exact h0) (by rw [dg_nm hD, dg_nm hR]; exact hl)
    rw [dg_nm hD, dg_nm hR, dg_nm (psub_nm _ _)] at this
    exact this
theorem rest_more {D T R P : List Int} {j : Nat} (e : ∀ x, ld D ^ j * pev P x = pev D x * pev T x + pev R x) :
    ∀ x, ld D ^ (j + 1) * pev P x = pev D x * pev (prai (ld D) 0 T) x + pev (prai (ld D) 0 R) x := fun x => by
  have h := e x
  rw [ev_prai, ev_prai, Int.pow_succ]
  simp only [Int.pow_zero] at h ⊢
  grind
theorem rT_len {D T R : List Int} {n : Nat} (h0 : 0 < D.length) (hl : D.length ≤ R.length) (hT : T.length ≤ n) (hR : R.length ≤ n) : (rT D T R).length ≤ n := by
  have h1 := padd_len (prai (ld D) 0 T) (prai (ld R) (R.length - D.length) [1])
  have h2 := prai_len (ld D) 0 T
  have h3 := prai_len (ld R) (R.length - D.length) [1]
  simp only [List.length_cons, List.length_nil] at h3
  unfold rT
  omega
theorem rT_sz {D T R : List Int} {e k : Nat} (hD : szR k D) (hT : szR e T) (hR : szR e R) (hk : 1 ≤ k) : szR (e + k + 1) (rT D T R) := by
  have h1 : szR (e + k) (prai (ld R) (R.length - D.length) [1]) := by
    have : szR k [1] := fun x hx => by
      rw [List.mem_singleton.1 hx]; exact (sz_one 1 (by decide)).mono hk
    have := this.prai (hR.get (dg R - 1)) (R.length - D.length)
    rwa [Nat.add_comm] at this
  exact (hT.prai (hD.get (dg D - 1)) 0).padd h1
theorem rR_sz {D R : List Int} {e k : Nat} (hD : szR k D) (hR : szR e R) : szR (e + k + 1) (rR D R) := by
  have h1 : szR (e + k) (prai (ld R) (R.length - D.length) D) := by
    have := hD.prai (hR.get (dg R - 1)) (R.length - D.length)
    rwa [Nat.add_comm] at this
  exact (hR.prai (hD.get (dg D - 1)) 0).psub h1
theorem szR_one (k : Nat) (hk : 1 ≤ k) : szR k [1] := fun x hx => by
  rw [List.mem_singleton.1 hx]; exact (sz_one 1 (by decide)).mono hk
/-- How many limbs after j steps. -/
def re (k j : Nat) : Nat := k + j * (k + 1)
theorem re_succ (k j : Nat) : re k (j + 1) = re k j + k + 1 := by unfold re; rw [Nat.succ_mul]; omega
theorem re_mono {k j m : Nat} (h : j ≤ m) : re k j ≤ re k m := by
  unfold re
  have := Nat.mul_le_mul_right (k + 1) h
  omega
theorem re_ge (k j : Nat) : k ≤ re k j := by unfold re; omega
theorem pRest_meets (v w : Value) (p q : Row) (k : Nat) (hp : Fit k p) (hq : Fit k q) (h1k : 1 ≤ k) (hk : re k (p.length + 1) ≤ 137438953472) (lp : p.length ≤ 536870912) (lq : q.length ≤ 536870912) :
    Meets Tryz.prog 22 [v, w] [(v, V p), (w, V q)] (fun r os fs => os = [] ∧ ∃ a b T R, (if dg (vv q) = 0 then r = .tuple #[a, b, .int .i64 2] ∧ T = [] ∧ R = [] else r = .tuple #[a, b, .int .i64 0] ∧ RestSpec (vv p) (vv q) T R ∧ szR (re k (dg (vv p) + 1 - dg (vv q))) T ∧ szR (re k (dg (vv p) + 1 - dg (vv q))) R ∧ T.length ≤ p.length ∧ R.length ≤ p.length) ∧
      fs = [(a, vd T), (b, vd R)]) := by
  have hkk : k ≤ re k (p.length + 1) := re_ge _ _
  have n1 := pNorm_meets v p (hp.mono (by omega)) (by omega)
  have n2 := pNorm_meets w q (hq.mono (by omega)) (by omega)
  have sP := hp.szR.nrm
  have sD := hq.szR.nrm
  have la : (nrm (vv p)).length ≤ p.length := Nat.le_trans (nrm_length_le _) (by rw [vv_len]; exact Nat.le_refl _)
  have lb : (nrm (vv q)).length ≤ q.length := Nat.le_trans (nrm_length_le _) (by rw [vv_len]; exact Nat.le_refl _)
  have hPn : Nm (nrm (vv p)) := nrm_nrm _
  have hDn : Nm (nrm (vv q)) := nrm_nrm _
  have hspec : ∀ T R, Nm T → Nm R → R.length < (nrm (vv q)).length → (∀ x, ld (nrm (vv q)) ^ ((nrm (vv p)).length + 1 - (nrm (vv q)).length) * pev (nrm (vv p)) x = pev (nrm (vv q)) x * pev T x + pev R x) → RestSpec (vv p) (vv q) T R := fun T R h1 h2 h3 h4 =>
    ⟨h1, h2, by rw [dg_nm h2]; exact h3, fun x => by
      have := h4 x
      rw [ev_nrm, ev_nrm, ld_ext (ev_nrm (vv q))] at this
      exact this⟩
  have hdq : dg (vv q) = (nrm (vv q)).length := rfl
  have hdp : dg (vv p) = (nrm (vv p)).length := rfl
  rw [hdq, hdp]
  generalize hA : nrm (vv p) = A at *
  generalize hB : nrm (vv q) = D at *
  refine meets_of_vc Tryz.func22 (by kernel_rfl) rfl (by kernel_rfl) (Nat.le_of_ble_eq_true rfl) ?_
  refine call_fn n1 (Seals.refl _ _) (by repeat (first | exact Sub.nil _ | refine Sub.cons (by repeat (first | exact List.Mem.head _ | apply List.Mem.tail)) ?_)) ?_
  rintro x1 _ _ ⟨rfl, rfl⟩
  refine call_fn n2 (Seals.refl _ _) (by repeat (first | exact Sub.nil _ | refine Sub.cons (by repeat (first | exact List.Mem.head _ | apply List.Mem.tail)) ?_)) ?_
  rintro x2 _ _ ⟨rfl, rfl⟩
  refine len_vd (by repeat (first | exact List.Mem.head _ | apply List.Mem.tail)) ?_
  refine cmp_split _ rfl (fun hz => ?_) (fun hz => ?_)
  · refine fin ⟨rfl, _, _, [], [], ?_, rfl⟩ (Seals.cons (Knw.nil 2 _) (Seals.cons (Knw.nil 2 _) (Seals.nil _ _)))
    rw [if_pos (by omega)]
    exact ⟨rfl, rfl, rfl⟩
  have hD0 : 0 < D.length := by omega
  refine len_vd (by repeat (first | exact List.Mem.head _ | apply List.Mem.tail)) ?_
  refine len_vd (by repeat (first | exact List.Mem.head _ | apply List.Mem.tail)) ?_
  refine ar rfl (by first | exact ⟨by omega, by omega⟩ | (simp only [inK]; omega)) ?_
  refine ar rfl (by first | exact ⟨by omega, by omega⟩ | (simp only [inK]; omega)) ?_
  refine max2_rule ?_
  have hld : sz (ld D) k := sD.get _
  refine loop_rule (X := Value × Value × List Int × List Int × Nat) (fun x => ([(7, x.2.1), (8, x2), (9, .int .i64 (x.2.2.2.2 : Nat)), (10, x.1)], [], [(x2, vd D), (x.1, vd x.2.2.1), (x.2.1, vd x.2.2.2.1)]))
    (fun x => Nm x.2.2.1 ∧ Nm x.2.2.2.1 ∧ x.2.2.2.2 ≤ A.length + 1 - D.length ∧ x.2.2.2.1.length < D.length + x.2.2.2.2 ∧ x.2.2.1.length ≤ p.length ∧ x.2.2.2.1.length ≤ p.length ∧ szR (re k (A.length + 1 - D.length - x.2.2.2.2)) x.2.2.1 ∧ szR (re k (A.length + 1 - D.length - x.2.2.2.2)) x.2.2.2.1 ∧
      ∀ y, ld D ^ (A.length + 1 - D.length - x.2.2.2.2) * pev A y = pev D y * pev x.2.2.1 y + pev x.2.2.2.1 y) (fun x => x.2.2.2.2) rfl ?_ ?_
  · refine again (.slice none 0 0, x1, [], A, A.length + 1 - D.length) ⟨rfl, hPn, Nat.le_refl _, by simp only; omega, Nat.zero_le _, la, fun x hx => by simp at hx, sP.mono (re_ge _ _), fun y => by simp only [Nat.sub_self, Int.pow_zero, pev]; omega⟩ trivial (by repeat (first | exact trivial | refine ⟨rfl, ?_⟩ | refine ⟨i64_eq (by first | omega | (simp only; omega)), ?_⟩ | refine ⟨u64_eq (by first | omega | (simp only; omega)), ?_⟩)) ?_
    exact Seals.trans (Seals.sub (fs' := [(x2, vd D), (x1, vd A)]) (by repeat (first | exact Sub.nil _ | refine Sub.cons (by repeat (first | exact List.Mem.head _ | apply List.Mem.tail)) ?_))) (Seals.trans (Seals.cons (Knw.nil 2 _) (Seals.sub (fs' := [(x2, vd D), (x1, vd A)]) (by repeat (first | exact Sub.nil _ | refine Sub.cons (by repeat (first | exact List.Mem.head _ | apply List.Mem.tail)) ?_)))) (Seals.sub (by repeat (first | exact Sub.nil _ | refine Sub.cons (by repeat (first | exact List.Mem.head _ | apply List.Mem.tail)) ?_))))
  · rintro ⟨vt, vr, T, R, n⟩ ⟨g1, g2, g3, g4, g5, g6, g7, g8, g9⟩
    simp only at g1 g2 g3 g4 g5 g6 g7 g8 g9 ⊢
    refine len_vd (by repeat (first | exact List.Mem.head _ | apply List.Mem.tail)) ?_
    refine len_vd (by repeat (first | exact List.Mem.head _ | apply List.Mem.tail)) ?_
    refine cmp_split _ rfl (fun hge => ?_) (fun hge => ?_)
    · have hge' : D.length ≤ R.length := by omega
      have hn1 : A.length + 1 - D.length - (n - 1) = A.length + 1 - D.length - n + 1 := by omega
      obtain ⟨s1, s2⟩ := rest_step hDn g2 hD0 hge' g9
      have hre : re k (A.length + 1 - D.length - n) + k + 1 ≤ re k (p.length + 1) := by
        rw [← re_succ]; exact re_mono (by omega)
      have z1 := rT_sz sD g7 g8 h1k
      have z2 := rR_sz sD g8
      rw [← re_succ, ← hn1] at z1 z2
      have hlR : sz (ld R) (re k (A.length + 1 - D.length - n)) := g8.get _
      have c1 := fun u u' => pRaisedT u u' T (ld D) 0 _ k g7 hld (by omega) (by omega) (by omega)
      have c2 := fun u u' => pRaisedT u u' [1] (ld R) (R.length - D.length) k _ (szR_one k h1k) hlR (by omega) (by show 1 ≤ _; omega) (by omega)
      have c3 := fun u => pSumT u (prai (ld D) 0 T) (prai (ld R) (R.length - D.length) [1]) (re k (A.length + 1 - D.length - n) + k) (g7.prai hld 0) (by
        have := (szR_one k h1k).prai hlR (R.length - D.length)
        rwa [Nat.add_comm] at this) (by omega) (by have := prai_len (ld D) 0 T; omega) (by have := prai_len (ld R) (R.length - D.length) [1]; simp only [List.length_cons, List.length_nil] at this; omega)
      have c4 := fun u u' => pRaisedT u u' R (ld D) 0 _ k g8 hld (by omega) (by omega) (by omega)
      have c5 := fun u u' => pRaisedT u u' D (ld R) (R.length - D.length) k _ sD hlR (by omega) (by omega) (by omega)
      have c6 := fun u u' => pSubT u u' (prai (ld D) 0 R) (prai (ld R) (R.length - D.length) D) (re k (A.length + 1 - D.length - n) + k) (g8.prai hld 0) (by
        have := sD.prai hlR (R.length - D.length)
        rwa [Nat.add_comm] at this) (by omega) (by have := prai_len (ld D) 0 R; omega) (by have := prai_len (ld R) (R.length - D.length) D; omega)
      have lT := rT_len hD0 hge' g5 g6
      have e1 : padd (prai (ld D) 0 T) (prai (ld R) (R.length - D.length) [1]) = rT D T R := rfl
      have e2 : psub (prai (ld D) 0 R) (prai (ld R) (R.length - D.length) D) = rR D R := rfl
      have tn : Nm (rT D T R) := padd_nm _ _
      have rn : Nm (rR D R) := psub_nm _ _
      rw [e1] at c3
      rw [e2] at c6
      refine call_fn (pLeadN vr R g2 (by omega)) (Seals.refl _ _) (by repeat (first | exact Sub.nil _ | refine Sub.cons (by repeat (first | exact List.Mem.head _ | apply List.Mem.tail)) ?_)) ?_
      rintro y1 _ _ ⟨rfl, rfl⟩
      refine len_vd (by repeat (first | exact List.Mem.head _ | apply List.Mem.tail)) ?_
      refine len_vd (by repeat (first | exact List.Mem.head _ | apply List.Mem.tail)) ?_
      refine ar rfl (by first | exact ⟨by omega, by omega⟩ | (simp only [inK]; omega)) ?_
      refine alloc_rule (d := I false []) fun c hc => ?_
      refine store_box (d := zd (ld R)) 0 rfl hc rfl (by kernel_rfl) ?_ ?_; exact Reads.fact (by repeat (first | exact List.Mem.head _ | apply List.Mem.tail))
      refine draw_rule [0, 1, 6, 7, 2, 3, 4, 5, 8, 9, 10, 11] [0, 1, 2, 3, 4, 5, 6, 7, 8, 9, 10, 11] (by kernel_rfl) (by kernel_rfl) ?_
      refine load_box (d := zd (ld R)) 0 rfl hc rfl (load_I _ _) fun y2 => ?_
      refine call_fn (pLeadN x2 D hDn hD0) (Seals.refl _ _) (by repeat (first | exact Sub.nil _ | refine Sub.cons (by repeat (first | exact List.Mem.head _ | apply List.Mem.tail)) ?_)) ?_
      rintro y3 _ _ ⟨rfl, rfl⟩
      refine call_fn (c1 vt y3) (Seals.refl _ _) (by repeat (first | exact Sub.nil _ | refine Sub.cons (by repeat (first | exact List.Mem.head _ | apply List.Mem.tail)) ?_)) ?_
      rintro y4 _ _ ⟨rfl, rfl⟩
      refine call_fn (zof_meets 1 (by decide) (by decide)) (Seals.refl _ _) (by repeat (first | exact Sub.nil _ | refine Sub.cons (by repeat (first | exact List.Mem.head _ | apply List.Mem.tail)) ?_)) ?_
      rintro y5 _ _ ⟨rfl, rfl⟩
      refine lit_L (size := 2) (f := J) (z := z0) (e := 30) (cn 1) (by decide) (Reads.fact (by repeat (first | exact List.Mem.head _ | apply List.Mem.tail))) rfl fun y6 => ?_
      have c2' := c2 y6 y2
      rw [show ((R.length - D.length : Nat) : Int) = (R.length : Int) - (D.length : Int) by omega] at c2'
      refine call_fn c2' (Seals.refl _ _) (by repeat (first | exact Sub.nil _ | refine Sub.cons (by repeat (first | exact List.Mem.head _ | apply List.Mem.tail)) ?_)) ?_
      rintro y7 _ _ ⟨rfl, rfl⟩
      refine lit2_L (size := 1) (f := V) (z := []) (e := 23) ((prai (ld D) 0 T).map cn) ((prai (ld R) (R.length - D.length) [1]).map cn) (by decide) (Reads.fact (by repeat (first | exact List.Mem.head _ | apply List.Mem.tail))) (Reads.fact (by repeat (first | exact List.Mem.head _ | apply List.Mem.tail))) rfl rfl fun y8 => ?_
      refine call_fn (c3 y8) (Seals.refl _ _) (by repeat (first | exact Sub.nil _ | refine Sub.cons (by repeat (first | exact List.Mem.head _ | apply List.Mem.tail)) ?_)) ?_
      rintro y9 _ _ ⟨rfl, rfl⟩
      refine draw_rule [0, 1, 4, 5, 6, 2, 3, 7, 8, 9] [0, 1, 2, 3, 4, 5, 6, 7, 8, 9] (by kernel_rfl) (by kernel_rfl) ?_
      refine load_box (d := zd (ld R)) 0 rfl hc rfl (load_I _ _) fun y10 => ?_
      refine call_fn (pLeadN x2 D hDn hD0) (Seals.refl _ _) (by repeat (first | exact Sub.nil _ | refine Sub.cons (by repeat (first | exact List.Mem.head _ | apply List.Mem.tail)) ?_)) ?_
      rintro y11 _ _ ⟨rfl, rfl⟩
      refine call_fn (c4 vr y11) (Seals.refl _ _) (by repeat (first | exact Sub.nil _ | refine Sub.cons (by repeat (first | exact List.Mem.head _ | apply List.Mem.tail)) ?_)) ?_
      rintro y12 _ _ ⟨rfl, rfl⟩
      have c5' := c5 x2 y10
      rw [show ((R.length - D.length : Nat) : Int) = (R.length : Int) - (D.length : Int) by omega] at c5'
      refine call_fn c5' (Seals.refl _ _) (by repeat (first | exact Sub.nil _ | refine Sub.cons (by repeat (first | exact List.Mem.head _ | apply List.Mem.tail)) ?_)) ?_
      rintro y13 _ _ ⟨rfl, rfl⟩
      refine call_fn (c6 y12 y13) (Seals.refl _ _) (by repeat (first | exact Sub.nil _ | refine Sub.cons (by repeat (first | exact List.Mem.head _ | apply List.Mem.tail)) ?_)) ?_
      rintro y14 _ _ ⟨rfl, rfl⟩
      refine ar rfl (by first | exact ⟨by omega, by omega⟩ | (simp only [inK]; omega)) ?_
      refine again (y9, y14, rT D T R, rR D R, n - 1) ⟨tn, rn, by simp only; omega, by simp only; omega, lT, by simp only; omega, z1, z2, fun y => by simp only; rw [hn1]; exact s1 y⟩ (by simp only; omega) (by repeat (first | exact trivial | refine ⟨rfl, ?_⟩ | refine ⟨i64_eq (by first | omega | (simp only; omega)), ?_⟩ | refine ⟨u64_eq (by first | omega | (simp only; omega)), ?_⟩)) ?_
      exact Seals.trans (Seals.drop 0 _ _) (Seals.sub (by repeat (first | exact Sub.nil _ | refine Sub.cons (by repeat (first | exact List.Mem.head _ | apply List.Mem.tail)) ?_)))
    · have hlt : R.length < D.length := by omega
      refine loop_rule (X := Value × Value × List Int × List Int × Nat) (fun x => ([(7, x.2.1), (8, x2), (10, x.1), (61, .int .i64 (n : Nat)), (62, .int .i64 (x.2.2.2.2 : Nat))], [], [(x2, vd D), (x.1, vd x.2.2.1), (x.2.1, vd x.2.2.2.1)]))
        (fun x => Nm x.2.2.1 ∧ Nm x.2.2.2.1 ∧ x.2.2.2.2 ≤ n ∧ x.2.2.2.1.length < D.length ∧ x.2.2.1.length ≤ p.length ∧ x.2.2.2.1.length ≤ p.length ∧ szR (re k (A.length + 1 - D.length - n + x.2.2.2.2)) x.2.2.1 ∧ szR (re k (A.length + 1 - D.length - n + x.2.2.2.2)) x.2.2.2.1 ∧
          ∀ y, ld D ^ (A.length + 1 - D.length - n + x.2.2.2.2) * pev A y = pev D y * pev x.2.2.1 y + pev x.2.2.2.1 y) (fun x => n - x.2.2.2.2) rfl ?_ ?_
      · exact again (vt, vr, T, R, 0) ⟨g1, g2, Nat.zero_le _, hlt, g5, g6, g7, g8, g9⟩ trivial (by repeat (first | exact trivial | refine ⟨rfl, ?_⟩ | refine ⟨i64_eq (by first | omega | (simp only; omega)), ?_⟩ | refine ⟨u64_eq (by first | omega | (simp only; omega)), ?_⟩)) (Seals.sub (by repeat (first | exact Sub.nil _ | refine Sub.cons (by repeat (first | exact List.Mem.head _ | apply List.Mem.tail)) ?_)))
      · rintro ⟨vt, vr, T, R, i⟩ ⟨g1, g2, g3', g4, g5, g6, g7, g8, g9⟩
        simp only at g1 g2 g3' g4 g5 g6 g7 g8 g9 ⊢
        refine cmp_split _ rfl (fun hlt => ?_) (fun hlt => ?_)
        · have hin : i < n := by omega
          have s1 := rest_more g9
          have hre : re k (A.length + 1 - D.length - n + i) + k + 1 ≤ re k (p.length + 1) := by
            rw [← re_succ]; exact re_mono (by omega)
          have hre2 : re k (A.length + 1 - D.length - n + i) + k ≤ re k (A.length + 1 - D.length - n + (i + 1)) := by
            have := re_succ k (A.length + 1 - D.length - n + i)
            rw [show A.length + 1 - D.length - n + i + 1 = A.length + 1 - D.length - n + (i + 1) by omega] at this
            omega
          have z1 := (g7.prai hld 0).mono hre2
          have z2 := (g8.prai hld 0).mono hre2
          have l1 := prai_len (ld D) 0 T
          have l2 := prai_len (ld D) 0 R
          have c1 := fun u u' => pRaisedT u u' T (ld D) 0 _ k g7 hld (by omega) (by omega) (by omega)
          have c4 := fun u u' => pRaisedT u u' R (ld D) 0 _ k g8 hld (by omega) (by omega) (by omega)
          refine call_fn (pLeadN x2 D hDn hD0) (Seals.refl _ _) (by repeat (first | exact Sub.nil _ | refine Sub.cons (by repeat (first | exact List.Mem.head _ | apply List.Mem.tail)) ?_)) ?_
          rintro y3 _ _ ⟨rfl, rfl⟩
          refine call_fn (c1 vt y3) (Seals.refl _ _) (by repeat (first | exact Sub.nil _ | refine Sub.cons (by repeat (first | exact List.Mem.head _ | apply List.Mem.tail)) ?_)) ?_
          rintro y4 _ _ ⟨rfl, rfl⟩
          refine call_fn (pLeadN x2 D hDn hD0) (Seals.refl _ _) (by repeat (first | exact Sub.nil _ | refine Sub.cons (by repeat (first | exact List.Mem.head _ | apply List.Mem.tail)) ?_)) ?_
          rintro y5 _ _ ⟨rfl, rfl⟩
          refine call_fn (c4 vr y5) (Seals.refl _ _) (by repeat (first | exact Sub.nil _ | refine Sub.cons (by repeat (first | exact List.Mem.head _ | apply List.Mem.tail)) ?_)) ?_
          rintro y6 _ _ ⟨rfl, rfl⟩
          refine ar rfl (by first | exact ⟨by omega, by omega⟩ | (simp only [inK]; omega)) ?_
          refine again (y4, y6, prai (ld D) 0 T, prai (ld D) 0 R, i + 1) ⟨prai_nm _ _ _, prai_nm _ _ _, hin, by simp only; omega, by simp only; omega, by simp only; omega, z1, z2, fun y => s1 y⟩ (by simp only; omega) (by repeat (first | exact trivial | refine ⟨rfl, ?_⟩ | refine ⟨i64_eq (by first | omega | (simp only; omega)), ?_⟩ | refine ⟨u64_eq (by first | omega | (simp only; omega)), ?_⟩)) (Seals.sub (by repeat (first | exact Sub.nil _ | refine Sub.cons (by repeat (first | exact List.Mem.head _ | apply List.Mem.tail)) ?_)))
        · have hin : i = n := by omega
          have q4 := g4
          subst hin
          have hj : A.length + 1 - D.length - i + i = A.length + 1 - D.length := by omega
          rw [hj] at g7 g8 g9
          refine fin ⟨rfl, vt, vr, T, R, ?_, rfl⟩ (Seals.sub (by repeat (first | exact Sub.nil _ | refine Sub.cons (by repeat (first | exact List.Mem.head _ | apply List.Mem.tail)) ?_)))
          rw [if_neg (by omega)]
          exact ⟨rfl, hspec T R g1 g2 q4 g9, g7, g8, g5, g6⟩
theorem pRestT (v w : Value) (p q : List Int) (k : Nat) (hp : szR k p) (hq : szR k q) (h1k : 1 ≤ k) (hk : re k (p.length + 1) ≤ 137438953472) (lp : p.length ≤ 536870912) (lq : q.length ≤ 536870912) :
    Meets Tryz.prog 22 [v, w] [(v, vd p), (w, vd q)] (fun r os fs => os = [] ∧ ∃ a b T R, (if dg q = 0 then r = .tuple #[a, b, .int .i64 2] ∧ T = [] ∧ R = [] else r = .tuple #[a, b, .int .i64 0] ∧ RestSpec p q T R ∧ szR (re k (dg p + 1 - dg q)) T ∧ szR (re k (dg p + 1 - dg q)) R ∧ T.length ≤ p.length ∧ R.length ≤ p.length) ∧
      fs = [(a, vd T), (b, vd R)]) := by
  have h := pRest_meets v w (p.map cn) (q.map cn) k hp.fit hq.fit h1k (by rw [List.length_map]; exact hk) (by rw [List.length_map]; exact lp) (by rw [List.length_map]; exact lq)
  rw [vv_cn, vv_cn, List.length_map] at h
  exact h
end Go.Proofs.YtdnjahdppgjmlaaGreat

namespace Go.Proofs.YtdnjahdppgjmlaaGreat
open Go.RowKit
theorem re_one (k j : Nat) : re k j + 1 = (k + 1) * (j + 1) := by
  unfold re; grind
theorem two_three (d : Nat) : d + 2 ≤ 2 * 3 ^ d := by
  induction d with
  | zero => decide
  | succ d ih => rw [Nat.pow_succ]; omega
theorem szR.pprim {k : Nat} {l : List Int} (h : szR k l) : szR k (pprim l) := szR.nrm fun x hx => by
  obtain ⟨y, hy, rfl⟩ := List.mem_map.1 hx
  exact sz_div (h.nrm y hy)
theorem pprim_len (l : List Int) : (pprim l).length ≤ dg l := Nat.le_trans (nrm_length_le _) (by rw [List.length_map]; exact Nat.le_refl _)
/-- The limbs of what Gcd works with: at most this, after s steps that took d from the degrees. -/
def ge (k s d : Nat) : Nat := (k + 1) * (2 ^ s * 3 ^ d)
theorem ge_step {e k s d j δ : Nat} (h : e + 1 ≤ ge k s d) (hj : j + 1 ≤ δ + 2) : re e j + 1 ≤ ge k (s + 1) (d + δ) := by
  rw [re_one]
  have h1 : (e + 1) * (j + 1) ≤ ge k s d * (2 * 3 ^ δ) := Nat.mul_le_mul h (Nat.le_trans hj (two_three δ))
  have h2 : ge k s d * (2 * 3 ^ δ) = ge k (s + 1) (d + δ) := by
    unfold ge
    rw [Nat.pow_succ, Nat.pow_add, Nat.mul_assoc]
    congr 1
    rw [Nat.mul_assoc, Nat.mul_assoc, ← Nat.mul_assoc (3 ^ d), Nat.mul_comm (3 ^ d) 2, Nat.mul_assoc]
  omega
theorem ge_mono {k s s' d d' : Nat} (hs : s ≤ s') (hd : d ≤ d') : ge k s d ≤ ge k s' d' :=
  Nat.mul_le_mul_left _ (Nat.mul_le_mul (Nat.pow_le_pow_right (by decide) hs) (Nat.pow_le_pow_right (by decide) hd))
theorem pGcd_meets (v w : Value) (p q : Row) (k n : Nat) (hp : Fit k p) (hq : Fit k q) (h1k : 1 ≤ k) (lp : p.length ≤ n) (lq : q.length ≤ n) (hn : n ≤ 536870912) (hk : ge k n n * (n + 2) ≤ 137438953472) :
    Meets Tryz.prog 13 [v, w] [(v, V p), (w, V q)] (fun r os fs => os = [] ∧ ∃ G, Nm G ∧ Gc G (vv p) (vv q) ∧ fs = [(r, vd G)]) := by
  have hge1 : k + 1 ≤ ge k n n := by
    unfold ge
    exact Nat.le_mul_of_pos_right _ (Nat.mul_pos (Nat.pow_pos (by decide)) (Nat.pow_pos (by decide)))
  have hge2 : ge k n n * 2 ≤ ge k n n * (n + 2) := Nat.mul_le_mul_left _ (by omega)
  have hcs1 : sz (cont (vv p) : Nat) k := cont_sz hp.szR
  have hcs2 : sz (cont (vv q) : Nat) k := cont_sz hq.szR
  have sP := hp.szR.pprim
  have sQ := hq.szR.pprim
  have dP : dg (vv p) ≤ n := Nat.le_trans (dg_le_len _) (by rw [vv_len]; exact lp)
  have dQ : dg (vv q) ≤ n := Nat.le_trans (dg_le_len _) (by rw [vv_len]; exact lq)
  have eP : (pprim (vv p)).length = dg (vv p) := by rw [← dg_nm (pprim_nm _), pprim_dg]
  have eQ : (pprim (vv q)).length = dg (vv q) := by rw [← dg_nm (pprim_nm _), pprim_dg]
  have hcg : sz ((Nat.gcd (cont (vv p)) (cont (vv q)) : Nat) : Int) k := by
    by_cases e : cont (vv p) = 0
    · rw [e, Nat.gcd_zero_left]; exact hcs2
    · unfold sz at hcs1 ⊢
      rw [Int.natAbs_natCast] at hcs1 ⊢
      exact Nat.lt_of_le_of_lt (Nat.gcd_le_left _ (Nat.pos_of_ne_zero e)) hcs1
  have hgc := fun u u' => zGcdZ u u' _ _ k k hcs1 hcs2 (by omega) (by omega)
  simp only [Int.natAbs_natCast] at hgc
  refine meets_of_vc Tryz.func13 (by kernel_rfl) rfl (by kernel_rfl) (Nat.le_of_ble_eq_true rfl) ?_
  refine call_fn (pContent_meets v p k hp (by omega)) (Seals.refl _ _) (by repeat (first | exact Sub.nil _ | refine Sub.cons (by repeat (first | exact List.Mem.head _ | apply List.Mem.tail)) ?_)) ?_
  rintro x1 _ _ ⟨rfl, rfl⟩
  refine call_fn (pContent_meets w q k hq (by omega)) (Seals.refl _ _) (by repeat (first | exact Sub.nil _ | refine Sub.cons (by repeat (first | exact List.Mem.head _ | apply List.Mem.tail)) ?_)) ?_
  rintro x2 _ _ ⟨rfl, rfl⟩
  refine call_fn (hgc x1 x2) (Seals.refl _ _) (by repeat (first | exact Sub.nil _ | refine Sub.cons (by repeat (first | exact List.Mem.head _ | apply List.Mem.tail)) ?_)) ?_
  rintro x3 _ _ ⟨rfl, rfl⟩
  refine alloc_rule (d := I false []) fun c hc => ?_
  refine store_box (d := zd (Nat.gcd (cont (vv p)) (cont (vv q)) : Nat)) 0 rfl hc rfl (by kernel_rfl) ?_ ?_; exact Reads.fact (by repeat (first | exact List.Mem.head _ | apply List.Mem.tail))
  refine call_fn (pPrimitive_meets v p k hp (by omega) (by omega)) (Seals.refl _ _) (by repeat (first | exact Sub.nil _ | refine Sub.cons (by repeat (first | exact List.Mem.head _ | apply List.Mem.tail)) ?_)) ?_
  rintro x4 _ _ ⟨rfl, rfl⟩
  refine call_fn (pPrimitive_meets w q k hq (by omega) (by omega)) (Seals.refl _ _) (by repeat (first | exact Sub.nil _ | refine Sub.cons (by repeat (first | exact List.Mem.head _ | apply List.Mem.tail)) ?_)) ?_
  rintro x5 _ _ ⟨rfl, rfl⟩
  refine loop_rule (X := Value × Value × List Int × List Int × Nat × Nat × Nat) (fun x => ([(5, c), (6, x.1), (7, x.2.1)], [own1 c 2 1 (fun _ => zd (Nat.gcd (cont (vv p)) (cont (vv q)) : Nat))], [(x.1, vd x.2.2.1), (x.2.1, vd x.2.2.2.1)]))
    (fun x => Nm x.2.2.1 ∧ Nm x.2.2.2.1 ∧ x.2.2.2.1.length + x.2.2.2.2.1 ≤ n ∧ x.2.2.2.2.2.1 + max x.2.2.1.length x.2.2.2.1.length ≤ n ∧ szR x.2.2.2.2.2.2 x.2.2.1 ∧ szR x.2.2.2.2.2.2 x.2.2.2.1 ∧ 1 ≤ x.2.2.2.2.2.2 ∧ x.2.2.2.2.2.2 + 1 ≤ ge k x.2.2.2.2.1 x.2.2.2.2.2.1 ∧
      (0 < dg x.2.2.1 → cont x.2.2.1 = 1 ∧ 0 < ld x.2.2.1) ∧ (0 < dg x.2.2.2.1 → cont x.2.2.2.1 = 1 ∧ 0 < ld x.2.2.2.1) ∧ (dg x.2.2.1 = 0 ∧ dg x.2.2.2.1 = 0 → dg (vv p) = 0 ∧ dg (vv q) = 0) ∧
      (∀ h, cont h = 1 → (Dv h x.2.2.1 ∧ Dv h x.2.2.2.1 ↔ Dv h (pprim (vv p)) ∧ Dv h (pprim (vv q))))) (fun x => x.2.2.2.1.length) rfl ?_ ?_
  · refine again (x4, x5, pprim (vv p), pprim (vv q), 0, 0, k) ⟨pprim_nm _, pprim_nm _, by simp only; omega, by simp only; omega, sP, sQ, h1k, by simp [ge], fun h => ?_, fun h => ?_, fun h => ?_, fun _ _ => Iff.rfl⟩ trivial (by repeat (first | exact trivial | refine ⟨rfl, ?_⟩ | refine ⟨i64_eq (by first | omega | (simp only; omega)), ?_⟩ | refine ⟨u64_eq (by first | omega | (simp only; omega)), ?_⟩)) (Seals.trans (Seals.box0 rfl) (Seals.sub (by repeat (first | exact Sub.nil _ | refine Sub.cons (by repeat (first | exact List.Mem.head _ | apply List.Mem.tail)) ?_))))
    · simp only [pprim_dg] at h; exact ⟨pprim_cont h, pprim_ld h⟩
    · simp only [pprim_dg] at h; exact ⟨pprim_cont h, pprim_ld h⟩
    · simp only [pprim_dg] at h; exact h
  · rintro ⟨va, vb, A, B, s, d, e⟩ ⟨g1, g2, g3, g4, g5, g6, g7, g8, g9, g10, g11, g12⟩
    simp only at g1 g2 g3 g4 g5 g6 g7 g8 g9 g10 g11 g12 ⊢
    have hed : e + 1 ≤ ge k n n := Nat.le_trans g8 (ge_mono (by omega) (by omega))
    refine len_vd (by repeat (first | exact List.Mem.head _ | apply List.Mem.tail)) ?_
    refine cmp_split _ rfl (fun hgt => ?_) (fun hgt => ?_)
    · have hB : 0 < dg B := by rw [dg_nm g2]; omega
      have hrb : re e (A.length + 1) ≤ 137438953472 := by
        have h1 := re_one e (A.length + 1)
        have h2 : (e + 1) * (A.length + 1 + 1) ≤ ge k n n * (n + 2) := Nat.mul_le_mul hed (by omega)
        omega
      have hrs := pRestT va vb A B e g5 g6 g7 hrb (by omega) (by omega)
      simp only [if_neg (show ¬ dg B = 0 by omega)] at hrs
      refine call_fn hrs (Seals.refl _ _) (by repeat (first | exact Sub.nil _ | refine Sub.cons (by repeat (first | exact List.Mem.head _ | apply List.Mem.tail)) ?_)) ?_
      rintro _ _ _ ⟨rfl, a, b, T, R, ⟨rfl, hsp, hT, hR, lT, lR⟩, rfl⟩
      have hst := ge_step (j := dg A + 1 - dg B) (δ := dg A - dg B) g8 (by omega)
      have hRB : dg R < dg B := hsp.low
      have hed2 : re e (dg A + 1 - dg B) + 1 ≤ ge k n n := Nat.le_trans hst (ge_mono (by omega) (by rw [dg_nm g1, dg_nm g2]; omega))
      have hk0 : ld B ^ (dg A + 1 - dg B) ≠ 0 := by
        have h0 := ld_ne hB
        have : ∀ m : Nat, ld B ^ m ≠ 0 := fun m => by
          induction m with
          | zero => rw [Int.pow_zero]; omega
          | succ m ih => rw [Int.pow_succ]; exact Int.mul_ne_zero ih h0
        exact this _
      have hge0 : e ≤ re e (dg A + 1 - dg B) := re_ge _ _
      have lR' : (pprim R).length = dg R := by rw [← dg_nm (pprim_nm R), pprim_dg]
      have dA := dg_nm g1
      have dB := dg_nm g2
      refine call_fn (pPrimitiveT b R _ hR (by omega) (by omega)) (Seals.refl _ _) (by repeat (first | exact Sub.nil _ | refine Sub.cons (by repeat (first | exact List.Mem.head _ | apply List.Mem.tail)) ?_)) ?_
      rintro y1 _ _ ⟨rfl, rfl⟩
      refine again (vb, y1, B, pprim R, s + 1, d + (dg A - dg B), re e (dg A + 1 - dg B)) ⟨g2, pprim_nm _, by simp only; omega, by simp only; omega, g6.mono hge0, hR.pprim, by simp only; omega, hst, g10, fun h => ?_, fun h => by simp only at h; omega, fun h hh => ?_⟩ (by simp only; omega) (by repeat (first | exact trivial | refine ⟨rfl, ?_⟩ | refine ⟨i64_eq (by first | omega | (simp only; omega)), ?_⟩ | refine ⟨u64_eq (by first | omega | (simp only; omega)), ?_⟩)) (Seals.trans (Seals.box0 rfl) (Seals.sub (by repeat (first | exact Sub.nil _ | refine Sub.cons (by repeat (first | exact List.Mem.head _ | apply List.Mem.tail)) ?_))))
      · simp only [pprim_dg] at h; exact ⟨pprim_cont h, pprim_ld h⟩
      · rw [← g12 h hh]
        exact (gcd_step hh hk0 hsp.eq).symm
    · have hB : dg B = 0 := by rw [dg_nm g2]; omega
      have hend := gcd_end (p := vv p) (q := vv q) (a := A) g9 (fun h => g11 ⟨h, hB⟩) fun h hh => by
        rw [← g12 h hh]
        exact ⟨fun k => ⟨k, Dv.zero _ (dg_zero.1 hB)⟩, fun k => k.1⟩
      have hra := fun u => pRaisedT va u A _ 0 e k g5 hcg (by omega) (by omega) (by omega)
      simp only [prai_zero] at hra
      refine load_box (d := zd (Nat.gcd (cont (vv p)) (cont (vv q)) : Nat)) 0 rfl hc rfl (load_I _ _) fun y1 => ?_
      refine call_fn (hra y1) (Seals.refl _ _) (by repeat (first | exact Sub.nil _ | refine Sub.cons (by repeat (first | exact List.Mem.head _ | apply List.Mem.tail)) ?_)) ?_
      rintro r _ _ ⟨rfl, rfl⟩
      exact fin ⟨rfl, _, ptim_nm _ _, hend, rfl⟩ (Seals.trans (Seals.drop 0 _ _) (Seals.sub (by repeat (first | exact Sub.nil _ | refine Sub.cons (by repeat (first | exact List.Mem.head _ | apply List.Mem.tail)) ?_))))
end Go.Proofs.YtdnjahdppgjmlaaGreat

namespace Go.Proofs.YtdnjahdppgjmlaaGreat
/-- P(x) = P(a) + (x - a) Q(x): this Q. -/
def syn (a : Int) : List Int → List Int
  | [] => []
  | [_] => []
  | _ :: d :: l => pev (d :: l) a :: syn a (d :: l)
theorem syn_len (a : Int) : ∀ l : List Int, (syn a l).length = l.length - 1
  | [] => rfl
  | [_] => rfl
  | _ :: d :: l => by
    have := syn_len a (d :: l)
    simp only [syn, List.length_cons] at this ⊢
    omega
theorem syn_ev (a x : Int) : ∀ l : List Int, pev l x = pev l a + (x - a) * pev (syn a l) x
  | [] => by simp [pev, syn]
  | [c] => by simp [pev, syn]
  | c :: d :: l => by
    have := syn_ev a x (d :: l)
    show c + x * pev (d :: l) x = c + a * pev (d :: l) a + (x - a) * (pev (d :: l) a + x * pev (syn a (d :: l)) x)
    rw [this]; grind
theorem syn_co (a : Int) : ∀ (l : List Int) (i : Nat), l.getD i 0 = (if i = 0 then pev l a else (syn a l).getD (i - 1) 0) - a * (syn a l).getD i 0
  | [], i => by simp [pev, syn]
  | [c], i => by cases i <;> simp [pev, syn]
  | c :: d :: l, 0 => by
    show c = c + a * pev (d :: l) a - a * pev (d :: l) a
    omega
  | c :: d :: l, 1 => by
    have := syn_co a (d :: l) 0
    simp only [if_true] at this
    show (d :: l).getD 0 0 = pev (d :: l) a - a * (syn a (d :: l)).getD 0 0
    exact this
  | c :: d :: l, i + 2 => by
    have := syn_co a (d :: l) (i + 1)
    rw [if_neg (by omega)] at this
    show (d :: l).getD (i + 1) 0 = (syn a (d :: l)).getD i 0 - a * (syn a (d :: l)).getD (i + 1) 0
    exact this
theorem bnd : ∀ (n : Nat) (P : List Int) (pts : Nat → Int) (A B : Nat), P.length ≤ n + 1 → (∀ i, i ≤ n → (pts i).natAbs ≤ A) → (∀ i j, i ≤ n → j ≤ n → i ≠ j → pts i ≠ pts j) → (∀ i, i ≤ n → (pev P (pts i)).natAbs ≤ B) →
    ∀ j, (P.getD j 0).natAbs ≤ B * (2 * A + 3) ^ n
  | 0, P, pts, A, B, hl, _, _, hv, j => by
    have h0 := hv 0 (Nat.le_refl _)
    match P, hl with
    | [], _ => simp
    | [c], _ =>
      simp only [pev] at h0
      cases j with
      | zero => simp at h0 ⊢; exact h0
      | succ j => simp
    | _ :: _ :: _, h => simp at h
  | n + 1, P, pts, A, B, hl, hA, hi, hv, j => by
    have ih := bnd n (syn (pts (n + 1)) P) pts A (2 * B) (by rw [syn_len]; omega) (fun i h => hA i (by omega)) (fun i j h1 h2 => hi i j (by omega) (by omega)) fun i h => by
      have h1 := syn_ev (pts (n + 1)) (pts i) P
      have h2 := hv i (by omega)
      have h3 := hv (n + 1) (Nat.le_refl _)
      have h4 := hi i (n + 1) (by omega) (Nat.le_refl _) (by omega)
      have h5 : ((pts i - pts (n + 1)) * pev (syn (pts (n + 1)) P) (pts i)).natAbs ≤ 2 * B := by
        have : (pts i - pts (n + 1)) * pev (syn (pts (n + 1)) P) (pts i) = pev P (pts i) - pev P (pts (n + 1)) := by omega
        rw [this]
        have := Int.natAbs_sub_le (pev P (pts i)) (pev P (pts (n + 1)))
        omega
      rw [Int.natAbs_mul] at h5
      have h6 : 1 ≤ (pts i - pts (n + 1)).natAbs := by omega
      exact Nat.le_trans (Nat.le_mul_of_pos_left _ h6) h5
    have hp : 1 ≤ (2 * A + 3) ^ n := Nat.pow_pos (by omega)
    have hq : ∀ m, ((syn (pts (n + 1)) P).getD m 0).natAbs ≤ 2 * B * (2 * A + 3) ^ n := ih
    have h1 := syn_co (pts (n + 1)) P j
    have h2 : (pts (n + 1) * (syn (pts (n + 1)) P).getD j 0).natAbs ≤ A * (2 * B * (2 * A + 3) ^ n) := by
      rw [Int.natAbs_mul]
      exact Nat.mul_le_mul (hA _ (Nat.le_refl _)) (hq j)
    have h3 : (if j = 0 then pev P (pts (n + 1)) else (syn (pts (n + 1)) P).getD (j - 1) 0).natAbs ≤ B + 2 * B * (2 * A + 3) ^ n := by
      split
      · exact Nat.le_trans (hv _ (Nat.le_refl _)) (Nat.le_add_right _ _)
      · exact Nat.le_trans (hq _) (Nat.le_add_left _ _)
    have h4 : (P.getD j 0).natAbs ≤ B + 2 * B * (2 * A + 3) ^ n + A * (2 * B * (2 * A + 3) ^ n) := by
      rw [h1]
      exact Nat.le_trans (Int.natAbs_sub_le _ _) (Nat.add_le_add h3 h2)
    refine Nat.le_trans h4 ?_
    have h5 : B ≤ B * (2 * A + 3) ^ n := Nat.le_mul_of_pos_right _ hp
    have h6 : B * (2 * A + 3) ^ (n + 1) = B * (2 * A + 3) ^ n + (2 * B * (2 * A + 3) ^ n + A * (2 * B * (2 * A + 3) ^ n)) := by
      rw [Nat.pow_succ]; grind
    omega
/-- Beyond its coefficients a polynomial that is not 0 has no root. -/
theorem ev_ne {H : Nat} {x : Int} (hx : H < x.natAbs) : ∀ {l : List Int}, (∀ i, (l.getD i 0).natAbs ≤ H) → pev l x = 0 → ∀ i, l.getD i 0 = 0
  | [], _, _, i => by simp
  | c :: l, h, e, i => by
    simp only [pev] at e
    have h0 : c = 0 := by
      have := h 0
      simp only [List.getD_cons_zero] at this
      exact small_dvd (x := x) (k := - pev l x) (by rw [Int.mul_neg]; omega) (by omega)
    have h1 : pev l x = 0 := by
      rw [h0] at e
      rcases Int.mul_eq_zero.1 (show x * pev l x = 0 by omega) with h2 | h2
      · omega
      · exact h2
    cases i with
    | zero => simpa using h0
    | succ i => simpa using ev_ne hx (fun i => by have := h (i + 1); simpa using this) h1 i
theorem dv_bnd {s w : List Int} {H B n : Nat} (h : Dv s w) (hw : 0 < dg w) (hH : ∀ i, (w.getD i 0).natAbs ≤ H) (hs : s.length ≤ n + 1) (hB : ∀ i, i ≤ n → (pev w (H + 1 + i : Nat)).natAbs ≤ B) (j : Nat) :
    (s.getD j 0).natAbs ≤ B * (2 * (H + 1 + n) + 3) ^ n := by
  refine bnd n s (fun i => ((H + 1 + i : Nat) : Int)) (H + 1 + n) B hs (fun i hi => by simp only [Int.natAbs_natCast]; omega) (fun i j _ _ hne he => hne (by omega)) (fun i hi => ?_) j
  obtain ⟨u, hu⟩ := h
  have h1 := hB i hi
  have h2 : pev w (H + 1 + i : Nat) ≠ 0 := fun e => by
    have := ev_ne (H := H) (x := ((H + 1 + i : Nat) : Int)) (by rw [Int.natAbs_natCast]; omega) hH e
    have : dg w ≤ 0 := dg_le.2 fun i _ => this i
    omega
  rw [hu, Int.natAbs_mul] at h1
  have h3 : 1 ≤ (pev u (H + 1 + i : Nat)).natAbs := by
    rw [hu] at h2
    have : pev u (H + 1 + i : Nat) ≠ 0 := fun e => h2 (by rw [e]; simp)
    omega
  exact Nat.le_trans (Nat.le_mul_of_pos_right _ h3) h1
end Go.Proofs.YtdnjahdppgjmlaaGreat

namespace Go.Proofs.YtdnjahdppgjmlaaGreat
open Go.RowKit
def dvk (k N : Nat) : Nat := k + 2 * (N * (k + 2)) + 1
theorem dv_szR {s w : List Int} {k N : Nat} (h : Dv s w) (hw : 0 < dg w) (hk : szR k w) (ns : Nm s) (hN : dg w ≤ N) (h32 : N ≤ 4294967296) : szR (dvk k N) s := by
  have hs0 := h.deg hw
  have hls : s.length = dg s := (dg_nm ns).symm
  have hP : 0 < 18446744073709551616 ^ k := Nat.pow_pos (by decide)
  have hP1 : 18446744073709551616 ^ (k + 1) = 18446744073709551616 ^ k * 18446744073709551616 := Nat.pow_succ _ _
  have hP2 : 18446744073709551616 ^ (k + 2) = 18446744073709551616 ^ k * 18446744073709551616 * 18446744073709551616 := by rw [Nat.pow_succ, hP1]
  have hB : ∀ i, i ≤ N → (pev w (18446744073709551616 ^ k + 1 + i : Nat)).natAbs ≤ 18446744073709551616 ^ (k + N * (k + 2)) := fun i hi => by
    have hx : sz ((18446744073709551616 ^ k + 1 + i : Nat) : Int) (k + 1) := by
      unfold sz
      rw [Int.natAbs_natCast, hP1]
      omega
    have h1 := ev_sz hk.nrm hx
    rw [ev_nrm] at h1
    have h2 : k + (nrm w).length * (k + 1 + 1) ≤ k + N * (k + 2) := Nat.add_le_add_left (Nat.mul_le_mul_right _ hN) _
    exact Nat.le_of_lt (h1.mono h2)
  have hb := dv_bnd (n := dg s - 1) h hw (fun i => Nat.le_of_lt (hk.get i)) (by omega) fun i hi => hB i (by omega)
  intro x hx
  obtain ⟨j, hj, rfl⟩ := List.mem_iff_getElem.1 hx
  have h1 := hb j
  rw [List.getD_eq_getElem?_getD, List.getElem?_eq_getElem hj] at h1
  have h2 : 2 * (18446744073709551616 ^ k + 1 + (dg s - 1)) + 3 ≤ 18446744073709551616 ^ (k + 2) := by
    rw [hP2]; omega
  have h3 : (2 * (18446744073709551616 ^ k + 1 + (dg s - 1)) + 3) ^ (dg s - 1) ≤ 18446744073709551616 ^ (N * (k + 2)) := by
    refine Nat.le_trans (Nat.pow_le_pow_left h2 _) ?_
    rw [← Nat.pow_mul]
    refine Nat.pow_le_pow_right (by decide) ?_
    rw [Nat.mul_comm]
    exact Nat.mul_le_mul_right _ (by omega)
  unfold sz
  have h4 : 18446744073709551616 ^ (k + N * (k + 2)) * 18446744073709551616 ^ (N * (k + 2)) = 18446744073709551616 ^ (k + 2 * (N * (k + 2))) := by
    rw [← Nat.pow_add]; congr 1; omega
  have h5 : (s[j]).natAbs ≤ 18446744073709551616 ^ (k + 2 * (N * (k + 2))) := by
    rw [← h4]
    exact Nat.le_trans h1 (Nat.mul_le_mul (Nat.le_refl _) h3)
  refine Nat.lt_of_le_of_lt h5 ?_
  unfold dvk
  exact Nat.pow_lt_pow_right (by decide) (by omega)
end Go.Proofs.YtdnjahdppgjmlaaGreat

namespace Go.Proofs.YtdnjahdppgjmlaaGreat
open Go.RowKit
/-- What is left, as one step of a division takes off. -/
theorem div_dg {R D : List Int} {c : Int} (hD : 0 < dg D) (hR : dg D ≤ dg R) (hc : c * ld D = ld R) : dg (psub R (prai c (dg R - dg D) D)) < dg R := by
  have : dg (psub R (prai c (dg R - dg D) D)) ≤ dg R - 1 := dg_le.2 fun i hi => by
    rw [co_psub, co_prai, if_neg (by omega)]
    by_cases h : i = dg R - 1
    · rw [h, show dg R - 1 - (dg R - dg D) = dg D - 1 by omega]
      show ld R - c * ld D = 0
      omega
    · rw [dg_le.1 (Nat.le_refl (dg R)) i (by omega), dg_le.1 (Nat.le_refl (dg D)) (i - (dg R - dg D)) (by omega)]; simp
  omega
/-- t and the errno that Divide tells. -/
structure DivSpec (p q t : List Int) (e : Int) : Prop where
  tn : Nm t
  zero : dg q = 0 → e = 2 ∧ t = []
  ok : 0 < dg q → Dv q p → e = 0 ∧ ∀ x, pev p x = pev q x * pev t x
  no : 0 < dg q → ¬ Dv q p → e = 11 ∧ t = []
theorem DivSpec.unique {p q t t' : List Int} {e e' : Int} (h : DivSpec p q t e) (h' : DivSpec p q t' e') : t = t' ∧ e = e' := by
  by_cases h0 : dg q = 0
  · rw [(h.zero h0).1, (h.zero h0).2, (h'.zero h0).1, (h'.zero h0).2]; exact ⟨rfl, rfl⟩
  · have h0 : 0 < dg q := by omega
    by_cases hd : Dv q p
    · obtain ⟨h1, h2⟩ := h.ok h0 hd
      obtain ⟨h3, h4⟩ := h'.ok h0 hd
      exact ⟨h.tn.ext h'.tn (cancel h0 fun x => by rw [← h2, ← h4]), by rw [h1, h3]⟩
    · rw [(h.no h0 hd).1, (h.no h0 hd).2, (h'.no h0 hd).1, (h'.no h0 hd).2]; exact ⟨rfl, rfl⟩
def put (f : Nat → Int) (s : Nat) (c : Int) : Nat → Int := fun y => if y = s then c else f y
theorem ev_put {N s : Nat} {f : Nat → Int} (hs : s < N) (h0 : f s = 0) (c x : Int) : pev (lst N (put f s c)) x = pev (lst N f) x + c * x ^ s := by
  have e : ∀ y, put f s c y = f y + (if s ≤ y then c * [1].getD (y - s) 0 else 0) := fun y => by
    unfold put
    by_cases h : y = s
    · subst h
      rw [if_pos rfl, if_pos (Nat.le_refl _), Nat.sub_self, h0]; simp
    · rw [if_neg h]
      split
      · rw [getD_none (l := [1]) (by simp; omega)]; simp
      · simp
  have e2 : lst N (put f s c) = lst N fun y => f y + (if s ≤ y then c * [1].getD (y - s) 0 else 0) := lst_congr fun y _ => e y
  rw [e2, ev_lst_add, ev_shifted [1] s N (by simp; omega)]
  simp [pev]
theorem div_step {P D R : List Int} {f : Nat → Int} {N : Nat} {c : Int} (hs : R.length - D.length < N) (h0 : f (R.length - D.length) = 0) (e : ∀ x, pev P x = pev D x * pev (lst N f) x + pev R x) :
    ∀ x, pev P x = pev D x * pev (lst N (put f (R.length - D.length) c)) x + pev (psub R (prai c (R.length - D.length) D)) x := fun x => by
  rw [ev_put hs h0, ev_psub, ev_prai, e]; grind
theorem div_no {P D R T : List Int} (e : ∀ x, pev P x = pev D x * pev T x + pev R x) (h : Dv D P) : Dv D R :=
  h.sub (c := pmul D T) ⟨T, fun x => ev_pmul _ _ _⟩ fun x => by rw [e, ev_pmul]; omega
theorem ld_dvd {D R : List Int} (h : Dv D R) (hR : 0 < dg R) : ld D ∣ ld R := by
  obtain ⟨u, hu⟩ := h
  have hd := (show Dv D R from ⟨u, hu⟩).deg hR
  have hu0 : 0 < dg u := dg_pos fun e => by
    have := (dg_zero (l := R)).2 fun x => by rw [hu, e]; simp
    omega
  exact ⟨ld u, (mul_dg hu hd.1 hu0).2⟩
theorem pDivideO_meets (v w : Value) (p q : Row) (k l : Nat) (hp : Fit k p) (hq : Fit l q) (hk : k + (p.length + 1) * (l + 1) ≤ 137438953472) (lp : p.length ≤ 536870912) (lq : q.length ≤ 536870912) :
    Meets Tryz.prog 21 [v, w] [(v, V p), (w, V q)] (fun r os fs => ∃ a t e, r = .tuple #[a, .int .i64 e] ∧ DivSpec (vv p) (vv q) t e ∧ isSl a ∧ szR (k + (p.length + 1) * (l + 1)) t ∧ os = [ownL 2 J z0 a (t.map cn)] ∧ fs = []) := by
  have hm1 : (p.length + 1) * (l + 1) = p.length * (l + 1) + (l + 1) := Nat.succ_mul _ _
  have n1 := pNorm_meets v p (hp.mono (by omega)) (by omega)
  have n2 := pNorm_meets w q (hq.mono (by omega)) (by omega)
  have sP := hp.szR.nrm
  have sD := hq.szR.nrm
  have la : (nrm (vv p)).length ≤ p.length := Nat.le_trans (nrm_length_le _) (by rw [vv_len]; exact Nat.le_refl _)
  have lb : (nrm (vv q)).length ≤ q.length := Nat.le_trans (nrm_length_le _) (by rw [vv_len]; exact Nat.le_refl _)
  have hPn : Nm (nrm (vv p)) := nrm_nrm _
  have hDn : Nm (nrm (vv q)) := nrm_nrm _
  have hdq : dg (vv q) = (nrm (vv q)).length := rfl
  have hdv : Dv (vv q) (vv p) → Dv (nrm (vv q)) (nrm (vv p)) := fun h => h.ext (fun x => (ev_nrm _ x).symm) fun x => (ev_nrm _ x).symm
  have hbad : 0 < (nrm (vv q)).length → ¬ Dv (nrm (vv q)) (nrm (vv p)) → DivSpec (vv p) (vv q) [] 11 := fun h0 hn => ⟨rfl, fun h => by omega, fun _ h => (hn (hdv h)).elim, fun _ _ => ⟨rfl, rfl⟩⟩
  have hgood : ∀ T, (0 < (nrm (vv q)).length) → (∀ x, pev (nrm (vv p)) x = pev (nrm (vv q)) x * pev T x) → DivSpec (vv p) (vv q) (nrm T) 0 := fun T h0 hn => ⟨nrm_nrm _, fun h => by omega, fun _ _ => ⟨rfl, fun x => by rw [ev_nrm, ← ev_nrm (vv p), ← ev_nrm (vv q)]; exact hn x⟩, fun _ h => (h ⟨T, fun x => by rw [← ev_nrm (vv p), ← ev_nrm (vv q)]; exact hn x⟩).elim⟩
  have hzero : (nrm (vv q)).length = 0 → DivSpec (vv p) (vv q) [] 2 := fun h0 => ⟨rfl, fun _ => ⟨rfl, rfl⟩, fun h => by omega, fun h => by omega⟩
  generalize hA : nrm (vv p) = A at *
  generalize hB : nrm (vv q) = D at *
  generalize hE : k + (p.length + 1) * (l + 1) = E at *
  refine meets_of_vc Tryz.func21 (by kernel_rfl) rfl (by kernel_rfl) (Nat.le_of_ble_eq_true rfl) ?_
  refine call_fn n1 (Seals.refl _ _) (by repeat (first | exact Sub.nil _ | refine Sub.cons (by repeat (first | exact List.Mem.head _ | apply List.Mem.tail)) ?_)) ?_
  rintro x1 _ _ ⟨rfl, rfl⟩
  refine call_fn n2 (Seals.refl _ _) (by repeat (first | exact Sub.nil _ | refine Sub.cons (by repeat (first | exact List.Mem.head _ | apply List.Mem.tail)) ?_)) ?_
  rintro x2 _ _ ⟨rfl, rfl⟩
  refine len_vd (by repeat (first | exact List.Mem.head _ | apply List.Mem.tail)) ?_
  refine cmp_split _ rfl (fun hz => ?_) (fun hz => ?_)
  · exact fin ⟨_, [], 2, rfl, hzero (by omega), ⟨_, _, _, rfl⟩, fun x hx => by simp at hx, rfl, rfl⟩ (Seals.trans (Seals.nil _ _) (Seals.own_nil _ _ 2 _))
  have hD0 : 0 < D.length := by omega
  have dD := dg_nm hDn
  have hldD : ld D ≠ 0 := ld_ne (by omega)
  refine len_vd (by repeat (first | exact List.Mem.head _ | apply List.Mem.tail)) ?_
  refine len_vd (by repeat (first | exact List.Mem.head _ | apply List.Mem.tail)) ?_
  refine ar rfl (by first | exact ⟨by omega, by omega⟩ | (simp only [inK]; omega)) ?_
  refine ar rfl (by first | exact ⟨by omega, by omega⟩ | (simp only [inK]; omega)) ?_
  refine max2_rule ?_
  refine make_rule (t := 23) (d := I false []) (A.length + 1 - D.length) (by omega) (by omega) (by omega) (by omega) fun u hu => ?_
  generalize hN : A.length + 1 - D.length = N
  refine loop_rule (X := Value × List Int × (Nat → Int) × Nat) (fun x => ([(6, x.1), (7, x2), (8, u)], [own1 u 2 N (fun y => zd (x.2.2.1 y))], [(x2, vd D), (x.1, vd x.2.1)]))
    (fun x => Nm x.2.1 ∧ x.2.1.length + x.2.2.2 ≤ A.length ∧ szR (k + x.2.2.2 * (l + 1)) x.2.1 ∧ (∀ y, sz (x.2.2.1 y) E) ∧ (∀ y, y + D.length ≤ x.2.1.length → x.2.2.1 y = 0) ∧ ∀ x', pev A x' = pev D x' * pev (lst N x.2.2.1) x' + pev x.2.1 x') (fun x => x.2.1.length) rfl ?_ ?_
  · refine again (x1, A, fun _ => 0, 0) ⟨hPn, by simp only; omega, by simp only [Nat.zero_mul, Nat.add_zero]; exact sP, fun _ => sz_zero _, fun _ _ => rfl, fun x => by simp only [ev_lst_zero]; omega⟩ trivial (by repeat (first | exact trivial | refine ⟨rfl, ?_⟩ | refine ⟨i64_eq (by first | omega | (simp only; omega)), ?_⟩ | refine ⟨u64_eq (by first | omega | (simp only; omega)), ?_⟩)) (Seals.trans (Seals.own_cong (os := [_]) 0 (fun _ => zd 0) rfl rfl fun y _ => zero_zd) (Seals.sub (by repeat (first | exact Sub.nil _ | refine Sub.cons (by repeat (first | exact List.Mem.head _ | apply List.Mem.tail)) ?_))))
  · rintro ⟨vr, R, f, j⟩ ⟨g1, g2, g3, g4, g5, g6⟩
    simp only at g1 g2 g3 g4 g5 g6 ⊢
    have dR := dg_nm g1
    refine len_vd (by repeat (first | exact List.Mem.head _ | apply List.Mem.tail)) ?_
    refine len_vd (by repeat (first | exact List.Mem.head _ | apply List.Mem.tail)) ?_
    refine cmp_split _ rfl (fun hge => ?_) (fun hge => ?_)
    · have hge' : D.length ≤ R.length := by omega
      have hsN : R.length - D.length < N := by omega
      have hj1 : (j + 1) * (l + 1) ≤ (p.length + 1) * (l + 1) := Nat.mul_le_mul_right _ (by omega)
      have hj2 : (j + 1) * (l + 1) = j * (l + 1) + (l + 1) := Nat.succ_mul _ _
      have hlR : sz (ld R) (k + j * (l + 1)) := g3.get _
      have hlD : sz (ld D) l := sD.get _
      have hlc : sz (ld R / ld D) (k + j * (l + 1)) := sz_div hlR
      have hlm : sz (ld R % ld D) l := by
        have h1 := Int.emod_nonneg (ld R) hldD
        have h2 := Int.emod_lt (ld R) hldD
        unfold sz at hlD ⊢
        omega
      have hst := div_step (c := ld R / ld D) hsN (g5 _ (by omega)) g6
      have c5 := fun u' u'' => pRaisedT u' u'' D (ld R / ld D) (R.length - D.length) l _ sD hlc (by omega) (by omega) (by omega)
      have s5 : szR (k + j * (l + 1) + l) (prai (ld R / ld D) (R.length - D.length) D) := by
        have := sD.prai hlc (R.length - D.length)
        rwa [Nat.add_comm] at this
      have c6 := fun u' u'' => pSubT u' u'' R (prai (ld R / ld D) (R.length - D.length) D) _ (g3.mono (Nat.le_add_right _ l)) s5 (by omega) (by omega) (by have := prai_len (ld R / ld D) (R.length - D.length) D; omega)
      have z6 : szR (k + (j + 1) * (l + 1)) (psub R (prai (ld R / ld D) (R.length - D.length) D)) := ((g3.mono (Nat.le_add_right _ l)).psub s5).mono (by omega)
      have hnd : ld R % ld D ≠ 0 → ¬ Dv D A := fun h hd => h (Int.emod_eq_zero_of_dvd (ld_dvd (div_no g6 hd) (by omega)))
      have hdg : ld R % ld D = 0 → (psub R (prai (ld R / ld D) (R.length - D.length) D)).length < R.length := fun h => by
        have := div_dg (R := R) (D := D) (c := ld R / ld D) (by omega) (by omega) (Int.ediv_mul_cancel (Int.dvd_of_emod_eq_zero h))
        rw [dR, dD, dg_nm (psub_nm _ _)] at this
        exact this
      have hrn : Nm (psub R (prai (ld R / ld D) (R.length - D.length) D)) := psub_nm _ _
      have hpf : ∀ y, sz (put f (R.length - D.length) (ld R / ld D) y) E := fun y => by
        unfold put; split
        · exact hlc.mono (by omega)
        · exact g4 y
      have hup : ∀ y, upd (fun y => zd (f y)) (R.length - D.length) (zd (ld R / ld D)) y = zd (put f (R.length - D.length) (ld R / ld D) y) := fun y =>
        upd_zd (G := f) (H := put f (R.length - D.length) (ld R / ld D)) (by unfold put; rw [if_pos rfl]) (fun y hy => by unfold put; rw [if_neg hy]) y
      have hcast : ((R.length - D.length : Nat) : Int) = (R.length : Int) - (D.length : Int) := by omega
      have hput : ∀ y, y < R.length - D.length → put f (R.length - D.length) (ld R / ld D) y = f y := fun y hy => by unfold put; rw [if_neg (by omega)]
      generalize hR' : psub R (prai (ld R / ld D) (R.length - D.length) D) = R' at *
      generalize hf' : put f (R.length - D.length) (ld R / ld D) = f' at *
      refine len_vd (by repeat (first | exact List.Mem.head _ | apply List.Mem.tail)) ?_
      refine len_vd (by repeat (first | exact List.Mem.head _ | apply List.Mem.tail)) ?_
      refine ar rfl (by first | exact ⟨by omega, by omega⟩ | (simp only [inK]; omega)) ?_
      refine call_fn (pLeadN vr R g1 (by omega)) (Seals.refl _ _) (by repeat (first | exact Sub.nil _ | refine Sub.cons (by repeat (first | exact List.Mem.head _ | apply List.Mem.tail)) ?_)) ?_
      rintro y1 _ _ ⟨rfl, rfl⟩
      refine call_fn (pLeadN x2 D hDn hD0) (Seals.refl _ _) (by repeat (first | exact Sub.nil _ | refine Sub.cons (by repeat (first | exact List.Mem.head _ | apply List.Mem.tail)) ?_)) ?_
      rintro y2 _ _ ⟨rfl, rfl⟩
      refine call_fn (zDivModZ y1 y2 _ _ _ _ hlR hlD (by omega) (by omega) hldD) (Seals.refl _ _) (by repeat (first | exact Sub.nil _ | refine Sub.cons (by repeat (first | exact List.Mem.head _ | apply List.Mem.tail)) ?_)) ?_
      rintro _ _ _ ⟨rfl, y3, y4, rfl, rfl⟩
      refine alloc_rule (d := I false []) fun c hc => ?_
      refine alloc_rule (d := I false []) fun m hm => ?_
      refine store_box (d := zd (ld R / ld D)) 1 rfl hc rfl (by kernel_rfl) ?_ ?_; exact Reads.fact (by repeat (first | exact List.Mem.head _ | apply List.Mem.tail))
      refine store_box (d := zd (ld R % ld D)) 0 rfl hm rfl (by kernel_rfl) ?_ ?_; exact Reads.fact (by repeat (first | exact List.Mem.head _ | apply List.Mem.tail))
      refine load_box (d := zd (ld R % ld D)) 0 rfl hm rfl (load_I _ _) fun y5 => ?_
      refine call_fn (zSignZ y5 _ _ hlm (by omega)) (Seals.refl _ _) (by repeat (first | exact Sub.nil _ | refine Sub.cons (by repeat (first | exact List.Mem.head _ | apply List.Mem.tail)) ?_)) ?_
      rintro _ _ _ ⟨rfl, rfl, rfl⟩
      refine cmp_split _ rfl (fun hne => ?_) (fun hne => ?_)
      · have h11 := hbad hD0 (hnd fun h => hne (by rw [h]; rfl))
        exact fin ⟨_, [], 11, rfl, h11, ⟨_, _, _, rfl⟩, fun x hx => by simp at hx, rfl, rfl⟩ (Seals.trans (Seals.drop 0 _ _) (Seals.trans (Seals.drop 0 _ _) (Seals.trans (Seals.drop 0 _ _) (Seals.trans (Seals.nil _ _) (Seals.own_nil _ _ 2 _)))))
      · have h0 : ld R % ld D = 0 := Int.sign_eq_zero_iff_zero.1 (by omega)
        have hlen := hdg h0
        refine load_box (d := zd (ld R / ld D)) 1 rfl hc rfl (load_I _ _) fun y6 => ?_
        refine index_elem 2 rfl hu (R.length - D.length) (by omega) hsN ?_
        refine StoreK.post (store_elem (d := zd (ld R / ld D)) 2 rfl (R.length - D.length) hsN rfl (by kernel_rfl) (Reads.fact (by repeat (first | exact List.Mem.head _ | apply List.Mem.tail))) ⟨_, _, Seals.own_cong (os := [_, _, _]) 2 (fun y => zd (f' y)) rfl rfl (fun y _ => hup y), ?_⟩)
        refine load_box (d := zd (ld R / ld D)) 1 rfl hc rfl (load_I _ _) fun y7 => ?_
        have c5' := c5 x2 y7
        rw [hcast] at c5'
        refine call_fn c5' (Seals.refl _ _) (by repeat (first | exact Sub.nil _ | refine Sub.cons (by repeat (first | exact List.Mem.head _ | apply List.Mem.tail)) ?_)) ?_
        rintro y8 _ _ ⟨rfl, rfl⟩
        refine call_fn (c6 vr y8) (Seals.refl _ _) (by repeat (first | exact Sub.nil _ | refine Sub.cons (by repeat (first | exact List.Mem.head _ | apply List.Mem.tail)) ?_)) ?_
        rintro y9 _ _ ⟨rfl, rfl⟩
        refine again (y9, R', f', j + 1) ⟨hrn, by simp only; omega, z6, hpf, fun y hy => ?_, hst⟩ (by simp only; omega) (by repeat (first | exact trivial | refine ⟨rfl, ?_⟩ | refine ⟨i64_eq (by first | omega | (simp only; omega)), ?_⟩ | refine ⟨u64_eq (by first | omega | (simp only; omega)), ?_⟩)) (Seals.trans (Seals.drop 0 _ _) (Seals.trans (Seals.drop 0 _ _) (Seals.sub (by repeat (first | exact Sub.nil _ | refine Sub.cons (by repeat (first | exact List.Mem.head _ | apply List.Mem.tail)) ?_)))))
        simp only at hy ⊢
        rw [hput y (by omega)]
        exact g5 y (by omega)
    · refine len_vd (by repeat (first | exact List.Mem.head _ | apply List.Mem.tail)) ?_
      refine cmp_split _ rfl (fun hp0 => ?_) (fun hp0 => ?_)
      · have h11 := hbad hD0 fun hd => by
          have := (div_no g6 hd).deg (by omega)
          omega
        exact fin ⟨_, [], 11, rfl, h11, ⟨_, _, _, rfl⟩, fun x hx => by simp at hx, rfl, rfl⟩ (Seals.trans (Seals.drop 0 _ _) (Seals.trans (Seals.nil _ _) (Seals.own_nil _ _ 2 _)))
      · have hR0 : R = [] := List.length_eq_zero_iff.1 (by omega)
        have hok := hgood (lst N f) hD0 fun x => by
          have := g6 x
          rw [hR0] at this
          simp only [pev] at this; omega
        have hsl : szR E (lst N f) := szR.lst fun y _ => g4 y
        have hn := pNormO_meets u ((lst N f).map cn) (hsl.mono hk).fit (by rw [List.length_map, lst_len]; omega)
        rw [vv_cn] at hn
        refine call_fn hn (Seals.told (g := f) hu fun y _ => rfl) (by repeat (first | exact Sub.nil _ | refine Sub.cons (by repeat (first | exact List.Mem.head _ | apply List.Mem.tail)) ?_)) ?_
        rintro r _ _ ⟨hr, rfl, rfl⟩
        exact fin ⟨r, _, 0, rfl, hok, hr, hsl.nrm, rfl, rfl⟩ (Seals.sub (by repeat (first | exact Sub.nil _ | refine Sub.cons (by repeat (first | exact List.Mem.head _ | apply List.Mem.tail)) ?_)))
end Go.Proofs.YtdnjahdppgjmlaaGreat

namespace Go.Proofs.YtdnjahdppgjmlaaGreat
-- What no other one divides.
-- Derivatives.
def pder (l : List Int) : List Int := nrm (lst (l.length - 1) fun i => ((i + 1 : Nat) : Int) * l.getD (i + 1) 0)
theorem co_pder (l : List Int) (i : Nat) : (pder l).getD i 0 = ((i + 1 : Nat) : Int) * l.getD (i + 1) 0 := by
  rw [pder, co_nrm, lst_get']
  split
  · rfl
  · rw [getD_none (l := l) (by omega)]; simp
theorem ev_co {l m : List Int} (h : ∀ i, l.getD i 0 = m.getD i 0) (x : Int) : pev l x = pev m x := ev_of_nrm (nrm_ext h) x
theorem pder_ext {l m : List Int} (h : ∀ x, pev l x = pev m x) (x : Int) : pev (pder l) x = pev (pder m) x := ev_co (fun i => by rw [co_pder, co_pder, co_ext h]) x
theorem pder_nm (l : List Int) : Nm (pder l) := nrm_nrm _
end Go.Proofs.YtdnjahdppgjmlaaGreat

namespace Go.Proofs.YtdnjahdppgjmlaaGreat
open Go.RowKit
theorem pDivide_meets (v w : Value) (p q : Row) (k l : Nat) (hp : Fit k p) (hq : Fit l q) (hk : k + (p.length + 1) * (l + 1) ≤ 137438953472) (lp : p.length ≤ 536870912) (lq : q.length ≤ 536870912) :
    Meets Tryz.prog 21 [v, w] [(v, V p), (w, V q)] (fun r os fs => os = [] ∧ ∃ a t e, r = .tuple #[a, .int .i64 e] ∧ DivSpec (vv p) (vv q) t e ∧ szR (k + (p.length + 1) * (l + 1)) t ∧ fs = [(a, vd t)]) :=
  (pDivideO_meets v w p q k l hp hq hk lp lq).closed fun r os fs ⟨a, t, e, h1, h2, h3, h4, h5, h6⟩ => by
    subst h5 h6
    exact ⟨[], [(a, vd t)], ⟨rfl, a, t, e, h1, h2, h4, rfl⟩, Seals.toldL h3⟩
theorem pDivideT (v w : Value) (p q : List Int) (k l : Nat) (hp : szR k p) (hq : szR l q) (hk : k + (p.length + 1) * (l + 1) ≤ 137438953472) (lp : p.length ≤ 536870912) (lq : q.length ≤ 536870912) :
    Meets Tryz.prog 21 [v, w] [(v, vd p), (w, vd q)] (fun r os fs => os = [] ∧ ∃ a t e, r = .tuple #[a, .int .i64 e] ∧ DivSpec p q t e ∧ szR (k + (p.length + 1) * (l + 1)) t ∧ fs = [(a, vd t)]) := by
  have h := pDivide_meets v w (p.map cn) (q.map cn) k l hp.fit hq.fit (by rw [List.length_map]; exact hk) (by rw [List.length_map]; exact lp) (by rw [List.length_map]; exact lq)
  rw [vv_cn, vv_cn, List.length_map] at h
  exact h
theorem lst_snoc (n : Nat) (f : Nat → Int) : lst (n + 1) f = lst n f ++ [f n] := by
  simp [lst, List.range_succ]
theorem sz_nat {i : Nat} (h : i < 18446744073709551616) : sz (i : Int) 1 := by
  unfold sz; rw [Int.natAbs_natCast]; omega
theorem pDerive_meets (v : Value) (p : Row) (k : Nat) (hp : Fit k p) (hk : k + 1 ≤ 137438953472) (lp : p.length ≤ 536870912) :
    Meets Tryz.prog 42 [v] [(v, V p)] (fun r os fs => os = [] ∧ fs = [(r, vd (pder (vv p)))]) := by
  have n1 := pNorm_meets v p (hp.mono (by omega)) (by omega)
  have sP := hp.szR.nrm
  have la : (nrm (vv p)).length ≤ p.length := Nat.le_trans (nrm_length_le _) (by rw [vv_len]; exact Nat.le_refl _)
  have hpd : pder (vv p) = pder (nrm (vv p)) := (pder_nm _).ext (pder_nm _) (pder_ext fun x => (ev_nrm _ x).symm)
  rw [hpd]
  generalize hA : nrm (vv p) = A at *
  have hg : ∀ i, sz (((i + 1 : Nat) : Int) * A.getD (i + 1) 0) (1 + k) ∨ 18446744073709551615 ≤ i := fun i => by
    by_cases h : i + 1 < 18446744073709551616
    · exact .inl ((sz_nat h).mul (sP.get _))
    · exact .inr (by omega)
  have hszL : szR (k + 1) (lst (A.length - 1) fun i => ((i + 1 : Nat) : Int) * A.getD (i + 1) 0) := szR.lst fun i hi => by
    rcases hg i with h | h
    · rw [Nat.add_comm 1 k] at h; exact h
    · omega
  have hdef : pder A = nrm (lst (A.length - 1) fun i => ((i + 1 : Nat) : Int) * A.getD (i + 1) 0) := rfl
  rw [hdef]
  generalize hG : (fun i => ((i + 1 : Nat) : Int) * A.getD (i + 1) 0) = g at *
  have hgi : ∀ i : Nat, 1 ≤ i → (i : Int) * A.getD i 0 = g (i - 1) := fun i hi => by
    rw [← hG]
    show _ = ((i - 1 + 1 : Nat) : Int) * A.getD (i - 1 + 1) 0
    rw [Nat.sub_add_cancel hi]
  refine meets_of_vc Tryz.func42 (by kernel_rfl) rfl (by kernel_rfl) (Nat.le_of_ble_eq_true rfl) ?_
  refine call_fn n1 (Seals.refl _ _) (by repeat (first | exact Sub.nil _ | refine Sub.cons (by repeat (first | exact List.Mem.head _ | apply List.Mem.tail)) ?_)) ?_
  rintro x1 _ _ ⟨rfl, rfl⟩
  refine loop_rule (X := Value × Nat) (fun x => ([(3, x1), (4, x.1), (5, .int .i64 (x.2 : Nat))], [ownL 2 J z0 x.1 ((lst (x.2 - 1) g).map cn)], [(x1, vd A)])) (fun x => isSl x.1 ∧ 1 ≤ x.2 ∧ (x.2 ≤ A.length ∨ x.2 = 1)) (fun x => A.length - x.2) rfl ?_ ?_
  · exact again (.slice none 0 0, 1) ⟨⟨_, _, _, rfl⟩, Nat.le_refl _, .inr rfl⟩ trivial (by repeat (first | exact trivial | refine ⟨rfl, ?_⟩ | refine ⟨i64_eq (by first | omega | (simp only; omega)), ?_⟩ | refine ⟨u64_eq (by first | omega | (simp only; omega)), ?_⟩)) (Seals.trans (Seals.own_nil _ _ 2 _) (Seals.sub (by repeat (first | exact Sub.nil _ | refine Sub.cons (by repeat (first | exact List.Mem.head _ | apply List.Mem.tail)) ?_))))
  · rintro ⟨vo, i⟩ ⟨hvo, h1, h2⟩
    simp only at hvo h1 h2 ⊢
    refine len_vd (by repeat (first | exact List.Mem.head _ | apply List.Mem.tail)) ?_
    refine cmp_split _ rfl (fun hlt => ?_) (fun hlt => ?_)
    · have hin : i < A.length := by omega
      have hai := sP.get i
      have hsi := sz_nat (i := i) (by omega)
      have hgi' := hgi i h1
      have hmul := fun u u' => zMulZ u u' (i : Int) (A.getD i 0) _ _ hsi hai (by omega) (by omega)
      rw [hgi'] at hmul
      have hl : lst (i - 1) g ++ [g (i - 1)] = lst (i + 1 - 1) g := by
        rw [← lst_snoc]; congr 1; omega
      have hll : (lst (i - 1) g).length = i - 1 := lst_len _ _
      refine draw_rule [0, 1, 3, 4, 5, 6, 2, 7, 8, 9, 10] [0, 1, 2, 3, 4, 5, 6, 7, 8, 9, 10] (by kernel_rfl) (by kernel_rfl) ?_
      refine index_vd (by repeat (first | exact List.Mem.head _ | apply List.Mem.tail)) i rfl hin fun b1 => ?_
      refine load_fact (d := zd (A.getD i 0)) (by repeat (first | exact List.Mem.head _ | apply List.Mem.tail)) (load_I _ _) fun y1 => ?_
      refine call_fn (zof_meets (i : Int) (by omega) (by omega)) (Seals.refl _ _) (by repeat (first | exact Sub.nil _ | refine Sub.cons (by repeat (first | exact List.Mem.head _ | apply List.Mem.tail)) ?_)) ?_
      rintro y2 _ _ ⟨rfl, rfl⟩
      refine call_fn (hmul y2 y1) (Seals.refl _ _) (by repeat (first | exact Sub.nil _ | refine Sub.cons (by repeat (first | exact List.Mem.head _ | apply List.Mem.tail)) ?_)) ?_
      rintro y3 _ _ ⟨rfl, rfl⟩
      refine lit_L (size := 2) (f := J) (z := z0) (e := 30) (cn (g (i - 1))) (by decide) (Reads.fact (by repeat (first | exact List.Mem.head _ | apply List.Mem.tail))) rfl fun y4 => ?_
      refine append_L (size := 2) (e := 30) (f := J) (z := z0) (l := (lst (i - 1) g).map cn) (m := [cn (g (i - 1))]) 0 rfl hvo (Knw.fact (by repeat (first | exact List.Mem.head _ | apply List.Mem.tail))) (by simp only [List.length_map, hll, List.length_cons, List.length_nil]; omega) (by simp only [List.length_map, hll, List.length_cons, List.length_nil]; omega) fun vn hvn => ?_
      refine ar rfl (by first | exact ⟨by omega, by omega⟩ | (simp only [inK]; omega)) ?_
      refine again (vn, i + 1) ⟨hvn, by simp only; omega, .inl (by simp only; omega)⟩ (by simp only; omega) (by repeat (first | exact trivial | refine ⟨rfl, ?_⟩ | refine ⟨i64_eq (by first | omega | (simp only; omega)), ?_⟩ | refine ⟨u64_eq (by first | omega | (simp only; omega)), ?_⟩)) ?_
      rw [show (lst (i - 1) g).map cn ++ [cn (g (i - 1))] = (lst (i + 1 - 1) g).map cn by rw [← hl, List.map_append]; rfl]
      exact Seals.sub (by repeat (first | exact Sub.nil _ | refine Sub.cons (by repeat (first | exact List.Mem.head _ | apply List.Mem.tail)) ?_))
    · have hii : lst (i - 1) g = lst (A.length - 1) g := by congr 1; omega
      rw [hii]
      refine call_fn (pNormT vo (lst (A.length - 1) g) (hszL.mono (by omega)) (by rw [lst_len]; omega)) (Seals.toldL hvo) (by repeat (first | exact Sub.nil _ | refine Sub.cons (by repeat (first | exact List.Mem.head _ | apply List.Mem.tail)) ?_)) ?_
      rintro r _ _ ⟨rfl, rfl⟩
      exact fin ⟨rfl, rfl⟩ (Seals.sub (by repeat (first | exact Sub.nil _ | refine Sub.cons (by repeat (first | exact List.Mem.head _ | apply List.Mem.tail)) ?_)))
theorem pDeriveT (v : Value) (p : List Int) (k : Nat) (hp : szR k p) (hk : k + 1 ≤ 137438953472) (lp : p.length ≤ 536870912) :
    Meets Tryz.prog 42 [v] [(v, vd p)] (fun r os fs => os = [] ∧ fs = [(r, vd (pder p))]) := by
  have h := pDerive_meets v (p.map cn) k hp.fit hk (by rw [List.length_map]; exact lp)
  rw [vv_cn] at h
  exact h
end Go.Proofs.YtdnjahdppgjmlaaGreat

namespace Go.Proofs.YtdnjahdppgjmlaaGreat
open Go.RowKit
theorem sz_pow {c : Int} {a : Nat} (h : sz c a) : ∀ n : Nat, sz (c ^ n) (n * a + 1)
  | 0 => by rw [Int.pow_zero, Nat.zero_mul]; exact sz_one 1 (by decide)
  | n + 1 => by
    rw [Int.pow_succ]
    have := (sz_pow h n).mul h
    refine this.mono ?_
    rw [Nat.succ_mul]; omega
end Go.Proofs.YtdnjahdppgjmlaaGreat

namespace Go.Proofs.YtdnjahdppgjmlaaGreat
open Go.RowKit
theorem pGcdT (v w : Value) (p q : List Int) (k n : Nat) (hp : szR k p) (hq : szR k q) (h1k : 1 ≤ k) (lp : p.length ≤ n) (lq : q.length ≤ n) (hn : n ≤ 536870912) (hk : ge k n n * (n + 2) ≤ 137438953472) :
    Meets Tryz.prog 13 [v, w] [(v, vd p), (w, vd q)] (fun r os fs => os = [] ∧ ∃ G, Nm G ∧ Gc G p q ∧ fs = [(r, vd G)]) := by
  have h := pGcd_meets v w (p.map cn) (q.map cn) k n hp.fit hq.fit h1k (by rw [List.length_map]; exact lp) (by rw [List.length_map]; exact lq) hn hk
  rw [vv_cn, vv_cn] at h
  exact h
/-- What Simple tells. -/
structure SimSpec (p s : List Int) : Prop where
  sn : Nm s
  zero : dg p = 0 → s = []
  ok : 0 < dg p → ∃ g, Gc g (pprim p) (pder (pprim p)) ∧ ∀ x, pev (pprim p) x = pev g x * pev s x
theorem SimSpec.unique {p s s' : List Int} (h : SimSpec p s) (h' : SimSpec p s') : s = s' := by
  by_cases h0 : dg p = 0
  · rw [h.zero h0, h'.zero h0]
  · obtain ⟨g, h1, h2⟩ := h.ok (by omega)
    obtain ⟨g', h3, h4⟩ := h'.ok (by omega)
    have hg : 0 < dg g := (h1.1.deg (by rw [pprim_dg]; omega)).1
    exact h.sn.ext h'.sn (cancel hg fun x => by rw [← h2, h4, h1.unique h3])
theorem szR.pder {k : Nat} {l : List Int} (h : szR k l) (hl : l.length ≤ 4294967296) : szR (k + 1) (pder l) := szR.nrm (szR.lst fun i hi => by
  have := (sz_nat (i := i + 1) (by omega)).mul (h.get (i + 1))
  rw [Nat.add_comm 1 k] at this; exact this)
theorem pder_len (l : List Int) : (pder l).length ≤ l.length := Nat.le_trans (nrm_length_le _) (by rw [lst_len]; omega)
theorem pSimple_meets (v : Value) (p : Row) (k n : Nat) (hp : Fit k p) (lp : p.length ≤ n) (hn : n ≤ 268435456) (hk : ge (k + 1) n n * (n + 2) ≤ 137438953472) (hd : k + (n + 1) * (dvk (k + 1) n + 1) ≤ 137438953472) :
    Meets Tryz.prog 15 [v] [(v, V p)] (fun r os fs => os = [] ∧ ∃ s, SimSpec (vv p) s ∧ szR (dvk k n) s ∧ fs = [(r, vd s)]) := by
  have hge : k + 2 ≤ ge (k + 1) n n := by
    unfold ge
    exact Nat.le_mul_of_pos_right _ (Nat.mul_pos (Nat.pow_pos (by decide)) (Nat.pow_pos (by decide)))
  have hge2 : ge (k + 1) n n * 2 ≤ ge (k + 1) n n * (n + 2) := Nat.mul_le_mul_left _ (by omega)
  have h1 := pPrimitive_meets v p k hp (by omega) (by omega)
  have sU := hp.szR.pprim
  have lU : (pprim (vv p)).length ≤ n := Nat.le_trans (pprim_len _) (Nat.le_trans (dg_le_len _) (by rw [vv_len]; exact lp))
  have nU := pprim_nm (vv p)
  have dU := pprim_dg (vv p)
  have hspec : ∀ s g, Nm s → 0 < dg (vv p) → Gc g (pprim (vv p)) (pder (pprim (vv p))) → (∀ x, pev (pprim (vv p)) x = pev g x * pev s x) → SimSpec (vv p) s := fun s g a1 a2 a3 a4 => ⟨a1, fun h => by omega, fun _ => ⟨g, a3, a4⟩⟩
  have hzero : dg (vv p) = 0 → SimSpec (vv p) [] := fun h => ⟨rfl, fun _ => rfl, fun h' => by omega⟩
  rw [dg_nm nU] at dU
  generalize hU : pprim (vv p) = u at *
  have sD := sU.pder (by omega)
  have lD := pder_len u
  refine meets_of_vc Tryz.func15 (by kernel_rfl) rfl (by kernel_rfl) (Nat.le_of_ble_eq_true rfl) ?_
  refine call_fn h1 (Seals.refl _ _) (by repeat (first | exact Sub.nil _ | refine Sub.cons (by repeat (first | exact List.Mem.head _ | apply List.Mem.tail)) ?_)) ?_
  rintro x1 _ _ ⟨rfl, rfl⟩
  refine len_vd (by repeat (first | exact List.Mem.head _ | apply List.Mem.tail)) ?_
  refine cmp_split _ rfl (fun hz => ?_) (fun hz => ?_)
  · exact fin ⟨rfl, [], hzero (by omega), fun x hx => by simp at hx, rfl⟩ (Seals.cons (Knw.nil 2 _) (Seals.nil _ _))
  · have hu0 : 0 < dg u := by rw [dg_nm nU]; omega
    refine call_fn (pDeriveT x1 u k sU (by omega) (by omega)) (Seals.refl _ _) (by repeat (first | exact Sub.nil _ | refine Sub.cons (by repeat (first | exact List.Mem.head _ | apply List.Mem.tail)) ?_)) ?_
    rintro x2 _ _ ⟨rfl, rfl⟩
    refine call_fn (pGcdT x1 x2 u (pder u) (k + 1) n (sU.mono (by omega)) sD (by omega) lU (by omega) (by omega) hk) (Seals.refl _ _) (by repeat (first | exact Sub.nil _ | refine Sub.cons (by repeat (first | exact List.Mem.head _ | apply List.Mem.tail)) ?_)) ?_
    rintro x3 _ _ ⟨rfl, G, nG, gG, rfl⟩
    have hGd := gG.1.deg hu0
    have sG : szR (dvk (k + 1) n) G := dv_szR gG.1 hu0 (sU.mono (by omega)) nG (by rw [dg_nm nU]; exact lU) (by omega)
    have lG : G.length ≤ n := by rw [← dg_nm nG]; rw [dg_nm nU] at hGd; omega
    have hdd : k + (u.length + 1) * (dvk (k + 1) n + 1) ≤ 137438953472 := by
      have : (u.length + 1) * (dvk (k + 1) n + 1) ≤ (n + 1) * (dvk (k + 1) n + 1) := Nat.mul_le_mul_right _ (by omega)
      omega
    refine call_fn (pDivideT x1 x3 u G k _ sU sG hdd (by omega) (by omega)) (Seals.refl _ _) (by repeat (first | exact Sub.nil _ | refine Sub.cons (by repeat (first | exact List.Mem.head _ | apply List.Mem.tail)) ?_)) ?_
    rintro _ _ _ ⟨rfl, a, t, e, rfl, hsp, _, rfl⟩
    obtain ⟨_, ht⟩ := hsp.ok hGd.1 gG.1
    have hs := hspec t G hsp.tn (by omega) gG ht
    have st : szR (dvk k n) t := dv_szR ⟨G, fun x => by rw [ht, Int.mul_comm]⟩ hu0 sU hsp.tn (by rw [dg_nm nU]; exact lU) (by omega)
    exact fin ⟨rfl, t, hs, st, rfl⟩ (Seals.sub (by repeat (first | exact Sub.nil _ | refine Sub.cons (by repeat (first | exact List.Mem.head _ | apply List.Mem.tail)) ?_)))
end Go.Proofs.YtdnjahdppgjmlaaGreat

namespace Go.Proofs.YtdnjahdppgjmlaaGreat
open Go.RowKit
/-- p at x + a. -/
def pshi (a : Int) : List Int → List Int
  | [] => []
  | c :: l => padd [c] (pmul [a, 1] (pshi a l))
theorem pshi_nm (a : Int) : ∀ l : List Int, Nm (pshi a l)
  | [] => rfl
  | _ :: _ => padd_nm _ _
theorem ev_pshi (a : Int) : ∀ (l : List Int) (x : Int), pev (pshi a l) x = pev l (x + a)
  | [], x => rfl
  | c :: l, x => by
    rw [pshi, ev_padd, ev_pmul, ev_pshi a l]
    simp only [pev]; grind
theorem ev_lst_snoc (n : Nat) (f : Nat → Int) (x : Int) : pev (lst (n + 1) f) x = pev (lst n f) x + x ^ n * f n := by
  rw [lst_snoc, ev_append, lst_len]; simp [pev]
/-- Of the numbers from i on, those above m are already moved. -/
def ShI (n : Nat) (a : Int) (U : Int → Int) (f : Nat → Int) (i m : Nat) : Prop :=
  ∀ x, U x = pev (lst (m - i) fun y => f (i + y)) x + x ^ (m - i) * (f m + (x - a) * pev (lst (n - 1 - m) fun y => f (m + 1 + y)) x)
def ShO (n : Nat) (a : Int) (P : Int → Int) (f : Nat → Int) (i : Nat) : Prop :=
  ∀ x, P x = pev (lst i f) (x - a) + (x - a) ^ i * pev (lst (n - i) fun y => f (i + y)) x
theorem ShI.start {n i : Nat} {a : Int} {f : Nat → Int} (h : i < n) : ShI n a (fun x => pev (lst (n - i) fun y => f (i + y)) x) f i (n - 1) := fun x => by
  have e : n - i = (n - 1 - i) + 1 := by omega
  have e2 : i + (n - 1 - i) = n - 1 := by omega
  simp only
  rw [e, ev_lst_snoc, e2, show n - 1 - (n - 1) = 0 by omega]
  simp [lst, pev]
theorem ShI.step {n i m : Nat} {a : Int} {U : Int → Int} {f : Nat → Int} (h : ShI n a U f i m) (hm : i < m) (hn : m ≤ n - 1) : ShI n a U (put f (m - 1) (f (m - 1) + a * f m)) i (m - 1) := fun x => by
  rw [h x]
  have e : m - i = (m - 1 - i) + 1 := by omega
  have e2 : i + (m - 1 - i) = m - 1 := by omega
  have e3 : n - 1 - (m - 1) = (n - 1 - m) + 1 := by omega
  have c1 : lst (m - 1 - i) (fun y => put f (m - 1) (f (m - 1) + a * f m) (i + y)) = lst (m - 1 - i) fun y => f (i + y) := lst_congr fun y hy => by unfold put; rw [if_neg (by omega)]
  have c2 : lst (n - 1 - m) (fun y => put f (m - 1) (f (m - 1) + a * f m) (m - 1 + 1 + (y + 1))) = lst (n - 1 - m) fun y => f (m + 1 + y) := lst_congr fun y hy => by unfold put; rw [if_neg (by omega)]; congr 1; omega
  have c3 : put f (m - 1) (f (m - 1) + a * f m) (m - 1 + 1 + 0) = f m := by unfold put; rw [if_neg (by omega)]; congr 1; omega
  have c4 : put f (m - 1) (f (m - 1) + a * f m) (m - 1) = f (m - 1) + a * f m := by unfold put; rw [if_pos rfl]
  rw [e, ev_lst_snoc, e2, e3, ev_lst_succ, c1, c2, c3, c4, Int.pow_succ]
  grind
theorem ShO.next {n i : Nat} {a : Int} {P : Int → Int} {f f' : Nat → Int} (h : ShO n a P f i) (hi : i < n) (hs : ShI n a (fun x => pev (lst (n - i) fun y => f (i + y)) x) f' i i) (hf : ∀ y, y < i → f' y = f y) : ShO n a P f' (i + 1) := fun x => by
  have h1 := hs x
  simp only [Nat.sub_self, Int.pow_zero] at h1
  have c1 : lst i f = lst i f' := lst_congr fun y hy => (hf y hy).symm
  rw [h x, h1, c1, ev_lst_snoc, show n - (i + 1) = n - 1 - i by omega, Int.pow_succ]
  simp only [lst, List.range_zero, List.map_nil, pev]
  grind
theorem pShiftJ (v w : Value) (p : Row) (aj : Bool × List Nat) (k b : Nat) (hp : Fit k p) (hal : Lim aj.2) (hab : aj.2.length ≤ b) (hk : k + p.length * p.length * (b + 1) + b + 1 ≤ 137438953472) (lp : p.length ≤ 536870912) :
    Meets Tryz.prog 19 [v, w] [(v, V p), (w, J aj)] (fun r os fs => os = [] ∧ fs = [(r, vd (pshi (jv aj) (vv p)))]) := by
  have ha : sz (jv aj) b := sz_jv hal hab
  obtain ⟨a, haj⟩ : ∃ a, jv aj = a := ⟨_, rfl⟩
  rw [haj] at ha ⊢
  have h1 := pNormO_meets v p (hp.mono (by omega)) (by omega)
  have sa := hp.szR.nrm
  have la : (nrm (vv p)).length ≤ p.length := Nat.le_trans (nrm_length_le _) (by rw [vv_len]; exact Nat.le_refl _)
  have hfin : ∀ f : Nat → Int, ShO (nrm (vv p)).length a (pev (nrm (vv p))) f (nrm (vv p)).length → nrm (lst (nrm (vv p)).length f) = pshi a (vv p) := fun f h => (Nm.nrm _).ext (pshi_nm _ _) fun x => by
    rw [ev_nrm, ev_pshi, ← ev_nrm (vv p), h (x + a), Nat.sub_self]
    simp [lst, pev]
  generalize hA : nrm (vv p) = A at *
  have hml : (A.map cn).length = A.length := List.length_map _
  have hnn : A.length * A.length * (b + 1) ≤ p.length * p.length * (b + 1) := Nat.mul_le_mul_right _ (Nat.mul_le_mul la la)
  have hbd : ∀ i m, i < A.length → m ≤ A.length - 1 → (i * A.length + (A.length - 1 - m)) * (b + 1) + (b + 1) ≤ A.length * A.length * (b + 1) := fun i m hi hm => by
    have q1 : (i + 1) * A.length ≤ A.length * A.length := Nat.mul_le_mul_right _ hi
    have q2 : (i + 1) * A.length = i * A.length + A.length := Nat.succ_mul _ _
    have q3 : (i * A.length + (A.length - 1 - m) + 1) * (b + 1) ≤ A.length * A.length * (b + 1) := Nat.mul_le_mul_right _ (by omega)
    rw [Nat.succ_mul] at q3
    exact q3
  have hon : ∀ i, (i + 1) * A.length = i * A.length + A.length := fun i => Nat.succ_mul _ _
  have hE : ∀ i, i ≤ A.length → i * A.length * (b + 1) ≤ A.length * A.length * (b + 1) := fun i hi => Nat.mul_le_mul_right _ (Nat.mul_le_mul_right _ hi)
  refine meets_of_vc Tryz.func19 (by kernel_rfl) rfl (by kernel_rfl) (Nat.le_of_ble_eq_true rfl) ?_
  refine box_fact (Reads.fact (d := J aj) (by repeat (first | exact List.Mem.head _ | apply List.Mem.tail))) fun px => ?_
  refine call_fn h1 (Seals.refl _ _) (by repeat (first | exact Sub.nil _ | refine Sub.cons (by repeat (first | exact List.Mem.head _ | apply List.Mem.tail)) ?_)) ?_
  rintro r _ _ ⟨hr, rfl, rfl⟩
  refine len_own 0 rfl hr fun _ => ?_
  refine loop_rule (X := Nat × (Nat → Int)) (fun x => ([(3, px), (5, r), (11, .int .i64 ((A.map cn).length : Nat)), (12, .int .i64 (x.1 : Nat))], [own1 r 2 A.length (fun y => zd (x.2 y))], [(px, .ptr (J aj))]))
    (fun x => x.1 ≤ A.length ∧ ShO A.length a (pev A) x.2 x.1 ∧ ∀ y, sz (x.2 y) (k + x.1 * A.length * (b + 1))) (fun x => A.length - x.1) rfl ?_ ?_
  · refine again (0, fun y => A.getD y 0) ⟨Nat.zero_le _, fun x => ?_, fun y => by simp only [Nat.zero_mul, Nat.add_zero]; exact sa.get y⟩ trivial (by repeat (first | exact trivial | refine ⟨rfl, ?_⟩ | refine ⟨i64_eq (by first | omega | (simp only; omega)), ?_⟩ | refine ⟨u64_eq (by first | omega | (simp only; omega)), ?_⟩)) (Seals.trans (own_told fun y _ => rfl) (Seals.sub (by repeat (first | exact Sub.nil _ | refine Sub.cons (by repeat (first | exact List.Mem.head _ | apply List.Mem.tail)) ?_))))
    simp only [Nat.sub_zero, Nat.zero_add, Int.pow_zero]
    rw [ev_lst (Nat.le_refl _)]
    simp [lst, pev]
  · rintro ⟨i, f⟩ ⟨g1, g2, g3⟩
    simp only at g1 g2 g3 ⊢
    refine cmp_split _ rfl (fun hlt => ?_) (fun hlt => ?_)
    · have hin : i < A.length := by omega
      refine len_own 0 rfl hr fun _ => ?_
      refine ar rfl (by first | exact ⟨by omega, by omega⟩ | (simp only [inK]; omega)) ?_
      refine loop_rule (X := (Nat → Int) × Nat) (fun x => ([(3, px), (5, r), (11, .int .i64 ((A.map cn).length : Nat)), (12, .int .i64 (i : Nat)), (6, .int .i64 (i : Nat)), (7, .int .i64 ((x.2 : Int) - 1))], [own1 r 2 A.length (fun y => zd (x.1 y))], [(px, .ptr (J aj))]))
        (fun x => i ≤ x.2 ∧ x.2 ≤ A.length - 1 ∧ ShI A.length a (fun x => pev (lst (A.length - i) fun y => f (i + y)) x) x.1 i x.2 ∧ (∀ y, y < i → x.1 y = f y) ∧ ∀ y, sz (x.1 y) (k + (i * A.length + (A.length - 1 - x.2)) * (b + 1))) (fun x => x.2) rfl ?_ ?_
      · exact again (f, A.length - 1) ⟨by simp only; omega, Nat.le_refl _, ShI.start hin, fun _ _ => rfl, fun y => (g3 y).mono (by simp only [Nat.sub_self, Nat.add_zero]; exact Nat.le_refl _)⟩ trivial (by repeat (first | exact trivial | refine ⟨rfl, ?_⟩ | refine ⟨i64_eq (by first | omega | (simp only; omega)), ?_⟩ | refine ⟨u64_eq (by first | omega | (simp only; omega)), ?_⟩)) (Seals.sub (by repeat (first | exact Sub.nil _ | refine Sub.cons (by repeat (first | exact List.Mem.head _ | apply List.Mem.tail)) ?_)))
      · rintro ⟨h, m⟩ ⟨q1, q2, q3, q4, q5⟩
        simp only at q1 q2 q3 q4 q5 ⊢
        have hb1 := hbd i m hin q2
        refine cmp_split _ rfl (fun hge => ?_) (fun hge => ?_)
        · have him : i < m := by omega
          have hs3 := q3.step him q2
          have z1 := q5 (m - 1)
          have z2 := q5 m
          have hsum : sz (h (m - 1) + a * h m) (k + (i * A.length + (A.length - 1 - (m - 1))) * (b + 1)) := by
            have t1 := sz_sub (z1.mono (Nat.le_add_left _ b)) ((ha.mul z2).neg)
            rw [Int.sub_neg] at t1
            refine t1.mono ?_
            have : i * A.length + (A.length - 1 - (m - 1)) = (i * A.length + (A.length - 1 - m)) + 1 := by omega
            rw [this, Nat.succ_mul]; omega
          have hmono : k + (i * A.length + (A.length - 1 - m)) * (b + 1) ≤ k + (i * A.length + (A.length - 1 - (m - 1))) * (b + 1) := Nat.add_le_add_left (Nat.mul_le_mul_right _ (by omega)) _
          have hpz : ∀ y, sz (put h (m - 1) (h (m - 1) + a * h m) y) (k + (i * A.length + (A.length - 1 - (m - 1))) * (b + 1)) := fun y => by
            unfold put; split
            · exact hsum
            · exact (q5 y).mono hmono
          have hpl : ∀ y, y < i → put h (m - 1) (h (m - 1) + a * h m) y = f y := fun y hy => by unfold put; rw [if_neg (by omega)]; exact q4 y hy
          have hup : ∀ y, upd (fun y => zd (h y)) (m - 1) (zd (h (m - 1) + a * h m)) y = zd (put h (m - 1) (h (m - 1) + a * h m) y) := fun y =>
            upd_zd (G := h) (H := put h (m - 1) (h (m - 1) + a * h m)) (by unfold put; rw [if_pos rfl]) (fun y hy => by unfold put; rw [if_neg hy]) y
          refine draw_rule [0, 1, 2, 3, 4, 5, 6, 7, 8, 9, 10, 11, 12, 13, 14, 15] [0, 1, 2, 3, 4, 5, 6, 7, 8, 9, 10, 11, 12, 13, 14, 15] (by kernel_rfl) (by kernel_rfl) ?_
          refine index_elem 0 rfl hr (m - 1) (by omega) (by omega) ?_
          refine load_elem' (d := zd (h (m - 1))) 0 rfl (m - 1) (by omega) rfl (load_I _ _) fun y1 => ?_
          refine load_fact (d := J aj) (by repeat (first | exact List.Mem.head _ | apply List.Mem.tail)) (load_J _) fun y2 => ?_
          refine ar rfl (by first | exact ⟨by omega, by omega⟩ | (simp only [inK]; omega)) ?_
          refine index_elem 0 rfl hr m (by omega) (by omega) ?_
          refine load_elem' (d := zd (h m)) 0 rfl m (by omega) rfl (load_I _ _) fun y3 => ?_
          have hmul := zMulJZ y2 y3 aj _ _ hal (by omega) z2 (by omega)
          rw [haj] at hmul
          refine call_fn hmul (Seals.refl _ _) (by repeat (first | exact Sub.nil _ | refine Sub.cons (by repeat (first | exact List.Mem.head _ | apply List.Mem.tail)) ?_)) ?_
          rintro y4 _ _ ⟨rfl, rfl⟩
          refine call_fn (zAddZ y1 y4 _ _ _ _ z1 (ha.mul z2) (by omega) (by omega)) (Seals.refl _ _) (by repeat (first | exact Sub.nil _ | refine Sub.cons (by repeat (first | exact List.Mem.head _ | apply List.Mem.tail)) ?_)) ?_
          rintro y5 _ _ ⟨rfl, rfl⟩
          refine index_elem 0 rfl hr (m - 1) (by omega) (by omega) ?_
          refine StoreK.post (store_elem (d := zd (h (m - 1) + a * h m)) 0 rfl (m - 1) (by omega) rfl (by kernel_rfl) (Reads.fact (by repeat (first | exact List.Mem.head _ | apply List.Mem.tail))) ⟨_, _, Seals.own_cong (os := [_]) 0 (fun y => zd (put h (m - 1) (h (m - 1) + a * h m) y)) rfl rfl (fun y _ => hup y), ?_⟩)
          refine ar rfl (by first | exact ⟨by omega, by omega⟩ | (simp only [inK]; omega)) ?_
          exact again (put h (m - 1) (h (m - 1) + a * h m), m - 1) ⟨by simp only; omega, by simp only; omega, hs3, hpl, hpz⟩ (by simp only; omega) (by repeat (first | exact trivial | refine ⟨rfl, ?_⟩ | refine ⟨i64_eq (by first | omega | (simp only; omega)), ?_⟩ | refine ⟨u64_eq (by first | omega | (simp only; omega)), ?_⟩)) (Seals.sub (by repeat (first | exact Sub.nil _ | refine Sub.cons (by repeat (first | exact List.Mem.head _ | apply List.Mem.tail)) ?_)))
        · have him : m = i := by omega
          subst him
          refine ar rfl (by first | exact ⟨by omega, by omega⟩ | (simp only [inK]; omega)) ?_
          refine again (m + 1, h) ⟨by simp only; omega, g2.next hin q3 q4, fun y => (q5 y).mono ?_⟩ (by simp only; omega) (by repeat (first | exact trivial | refine ⟨rfl, ?_⟩ | refine ⟨i64_eq (by first | omega | (simp only; omega)), ?_⟩ | refine ⟨u64_eq (by first | omega | (simp only; omega)), ?_⟩)) (Seals.sub (by repeat (first | exact Sub.nil _ | refine Sub.cons (by repeat (first | exact List.Mem.head _ | apply List.Mem.tail)) ?_)))
          simp only
          rw [hon]
          exact Nat.add_le_add_left (Nat.mul_le_mul_right _ (by omega)) _
    · have hip : i = A.length := by omega
      subst hip
      have hE' := hE A.length (Nat.le_refl _)
      have hn := pNormT r (lst A.length f) ((szR.lst fun y _ => g3 y).mono (by omega)) (by rw [lst_len]; omega)
      rw [hfin f g2] at hn
      refine call_fn hn (Seals.told (g := f) hr fun y _ => rfl) (by repeat (first | exact Sub.nil _ | refine Sub.cons (by repeat (first | exact List.Mem.head _ | apply List.Mem.tail)) ?_)) ?_
      rintro u _ _ ⟨rfl, rfl⟩
      exact fin ⟨rfl, rfl⟩ (Seals.sub (by repeat (first | exact Sub.nil _ | refine Sub.cons (by repeat (first | exact List.Mem.head _ | apply List.Mem.tail)) ?_)))
theorem pShift_meets (v w : Value) (p : Row) (a : Int) (k b : Nat) (hp : Fit k p) (ha : sz a b) (hk : k + p.length * p.length * (b + 1) + b + 1 ≤ 137438953472) (lp : p.length ≤ 536870912) :
    Meets Tryz.prog 19 [v, w] [(v, V p), (w, zd a)] (fun r os fs => os = [] ∧ fs = [(r, vd (pshi a (vv p)))]) := by
  have h := pShiftJ v w p (cn a) k b hp (Lim_lims _) ha.len hk lp
  rw [jv_cn] at h
  exact h
end Go.Proofs.YtdnjahdppgjmlaaGreat

namespace Go.Proofs.YtdnjahdppgjmlaaGreat
open Go.RowKit
end Go.Proofs.YtdnjahdppgjmlaaGreat

namespace Go.Proofs.YtdnjahdppgjmlaaGreat
open Go.RowKit
end Go.Proofs.YtdnjahdppgjmlaaGreat

namespace Go.Proofs.YtdnjahdppgjmlaaGreat
open Go.RowKit
theorem deg_dg (l : List Int) : deg l = (dg l : Int) - 1 := by
  have h1 := degTo_le l l.length (dg l) (dg_le_len l) fun j h _ => dg_le.1 (Nat.le_refl _) j h
  unfold deg
  rw [h1]
  by_cases h0 : dg l = 0
  · rw [h0]; rfl
  · have h2 := ld_ne (l := l) (by omega)
    unfold ld at h2
    obtain ⟨m, hm⟩ : ∃ m, dg l = m + 1 := ⟨dg l - 1, by omega⟩
    rw [hm] at h2 ⊢
    simp only [degTo, Nat.add_sub_cancel] at h2 ⊢
    rw [if_neg h2]; omega
theorem rNormP_meets (v : Value) (p : Row) (hp : Fit 137438953472 p) (lp : p.length ≤ 536870912) :
    Meets Tryz.prog 39 [v] [(v, V p)] (fun r os fs => os = [] ∧ fs = [(r, vd (nrm (vv p)))]) := by
  have hd := rDegree_meets v p (hp.mono (by decide))
  rw [deg_dg] at hd
  have hdl : dg (vv p) ≤ p.length := Nat.le_trans (dg_le_len _) (by rw [vv_len]; exact Nat.le_refl _)
  have hfin : lst (dg (vv p)) (fun i => (vv p).getD i 0) = nrm (vv p) := row_eq_of_getD 0 (by rw [lst_len]; rfl) fun j hj => by
    rw [lst_len] at hj
    rw [lst_get hj, co_nrm]
  have hat : ∀ i : Nat, Meets Tryz.prog 65 [v, .int .i64 (i : Nat)] [(v, V p)] (fun r os fs => os = [] ∧ fs = [(r, zd ((vv p).getD i 0))]) := fun i => by
    have := rAt_meets v p (i : Nat) (hp.mono (by decide))
    rw [if_neg (by omega), Int.toNat_natCast] at this
    exact this
  generalize hn : dg (vv p) = n at *
  generalize hg : (fun i => (vv p).getD i 0) = g at *
  have hat' : ∀ i : Nat, Meets Tryz.prog 65 [v, .int .i64 (i : Nat)] [(v, V p)] (fun r os fs => os = [] ∧ fs = [(r, zd (g i))]) := fun i => by rw [← hg]; exact hat i
  rw [← hfin]
  refine meets_of_vc Tryz.func39 (by kernel_rfl) rfl (by kernel_rfl) (Nat.le_of_ble_eq_true rfl) ?_
  refine call_fn hd (Seals.refl _ _) (by repeat (first | exact Sub.nil _ | refine Sub.cons (by repeat (first | exact List.Mem.head _ | apply List.Mem.tail)) ?_)) ?_
  rintro _ _ _ ⟨rfl, rfl, rfl⟩
  refine ar rfl (by first | exact ⟨by omega, by omega⟩ | (simp only [inK]; omega)) ?_
  refine empty_L (size := 2) (e := 30) J z0 (by decide) fun v0 hv0 => ?_
  refine loop_rule (X := Value × Nat) (fun x => ([(0, v), (3, .int .i64 (n : Nat)), (4, x.1), (5, .int .i64 (x.2 : Nat))], [ownL 2 J z0 x.1 ((lst x.2 g).map cn)], [(v, V p)])) (fun x => isSl x.1 ∧ x.2 ≤ n) (fun x => n - x.2) rfl ?_ ?_
  · exact again (v0, 0) ⟨hv0, Nat.zero_le _⟩ trivial (by repeat (first | exact trivial | refine ⟨rfl, ?_⟩ | refine ⟨i64_eq (by first | omega | (simp only; omega)), ?_⟩ | refine ⟨u64_eq (by first | omega | (simp only; omega)), ?_⟩)) (Seals.sub (by repeat (first | exact Sub.nil _ | refine Sub.cons (by repeat (first | exact List.Mem.head _ | apply List.Mem.tail)) ?_)))
  · rintro ⟨vo, i⟩ ⟨hvo, h2⟩
    simp only at hvo h2 ⊢
    refine cmp_split _ rfl (fun hlt => ?_) (fun hlt => ?_)
    · have hll : (lst i g).length = i := lst_len _ _
      refine call_fn (hat' i) (Seals.refl _ _) (by repeat (first | exact Sub.nil _ | refine Sub.cons (by repeat (first | exact List.Mem.head _ | apply List.Mem.tail)) ?_)) ?_
      rintro y1 _ _ ⟨rfl, rfl⟩
      refine lit_L (size := 2) (f := J) (z := z0) (e := 30) (cn (g i)) (by decide) (Reads.fact (by repeat (first | exact List.Mem.head _ | apply List.Mem.tail))) rfl fun y4 => ?_
      refine append_L (size := 2) (e := 30) (f := J) (z := z0) (l := (lst i g).map cn) (m := [cn (g i)]) 0 rfl hvo (Knw.fact (by repeat (first | exact List.Mem.head _ | apply List.Mem.tail))) (by simp only [List.length_map, hll, List.length_cons, List.length_nil]; omega) (by simp only [List.length_map, hll, List.length_cons, List.length_nil]; omega) fun vn hvn => ?_
      refine ar rfl (by first | exact ⟨by omega, by omega⟩ | (simp only [inK]; omega)) ?_
      refine again (vn, i + 1) ⟨hvn, by simp only; omega⟩ (by simp only; omega) (by repeat (first | exact trivial | refine ⟨rfl, ?_⟩ | refine ⟨i64_eq (by first | omega | (simp only; omega)), ?_⟩ | refine ⟨u64_eq (by first | omega | (simp only; omega)), ?_⟩)) ?_
      rw [show (lst i g).map cn ++ [cn (g i)] = (lst (i + 1) g).map cn by rw [lst_snoc, List.map_append]; rfl]
      exact Seals.sub (by repeat (first | exact Sub.nil _ | refine Sub.cons (by repeat (first | exact List.Mem.head _ | apply List.Mem.tail)) ?_))
    · have hii : i = n := by omega
      subst hii
      exact fin ⟨rfl, rfl⟩ (Seals.trans (Seals.toldL hvo) (Seals.sub (by repeat (first | exact Sub.nil _ | refine Sub.cons (by repeat (first | exact List.Mem.head _ | apply List.Mem.tail)) ?_))))
end Go.Proofs.YtdnjahdppgjmlaaGreat

namespace Go.Proofs.YtdnjahdppgjmlaaGreat
open Go.RowKit
theorem rNormT (v : Value) (l : List Int) (hl : szR 137438953472 l) (ll : l.length ≤ 536870912) :
    Meets Tryz.prog 39 [v] [(v, vd l)] (fun r os fs => os = [] ∧ fs = [(r, vd (nrm l))]) := by
  have h := rNormP_meets v (l.map cn) hl.fit (by rw [List.length_map]; exact ll)
  rw [vv_cn] at h
  exact h
theorem rTimesJ (v w : Value) (p : Row) (cj : Bool × List Nat) (k : Nat) (hp : Fit k p) (hcl : Lim cj.2) (hca : cj.2.length ≤ k) (hk : k + k ≤ 137438953472) (lp : p.length ≤ 536870912) :
    Meets Tryz.prog 38 [v, w] [(v, V p), (w, J cj)] (fun r os fs => os = [] ∧ fs = [(r, vd (ptim (jv cj) (vv p)))]) := by
  have hc : sz (jv cj) k := sz_jv hcl hca
  obtain ⟨c, hcj⟩ : ∃ c, jv cj = c := ⟨_, rfl⟩
  rw [hcj] at hc ⊢
  have hfin : lst p.length (fun i => c * (vv p).getD i 0) = (vv p).map fun y => c * y := by
    rw [← vv_len]; exact lst_map (vv p) fun y => c * y
  have hsz : szR (k + k) ((vv p).map fun y => c * y) := hp.szR.map hc
  have hgi : ∀ i, i < p.length → c * jv (p.getD i z0) = (fun i => c * (vv p).getD i 0) i := fun i hi => by simp only; rw [vv_get p i hi]
  have hn := fun u => rNormT u ((vv p).map fun y => c * y) (hsz.mono hk) (by rw [List.length_map, vv_len]; exact lp)
  rw [← hfin] at hn
  have hdef : ptim c (vv p) = nrm (lst p.length fun i => c * (vv p).getD i 0) := by rw [hfin]; rfl
  rw [hdef]
  generalize hg : (fun i => c * (vv p).getD i 0) = g at *
  refine meets_of_vc Tryz.func38 (by kernel_rfl) rfl (by kernel_rfl) (Nat.le_of_ble_eq_true rfl) ?_
  refine box_fact (Reads.fact (d := J cj) (by repeat (first | exact List.Mem.head _ | apply List.Mem.tail))) fun px => ?_
  refine empty_L (size := 2) (e := 30) J z0 (by decide) fun v0 hv0 => ?_
  refine loop_rule (X := Value × Nat) (fun x => ([(0, v), (3, px), (5, x.1), (6, .int .i64 (x.2 : Nat))], [ownL 2 J z0 x.1 ((lst x.2 g).map cn)], [(v, V p), (px, .ptr (J cj))])) (fun x => isSl x.1 ∧ x.2 ≤ p.length) (fun x => p.length - x.2) rfl ?_ ?_
  · exact again (v0, 0) ⟨hv0, Nat.zero_le _⟩ trivial (by repeat (first | exact trivial | refine ⟨rfl, ?_⟩ | refine ⟨i64_eq (by first | omega | (simp only; omega)), ?_⟩ | refine ⟨u64_eq (by first | omega | (simp only; omega)), ?_⟩)) (Seals.sub (by repeat (first | exact Sub.nil _ | refine Sub.cons (by repeat (first | exact List.Mem.head _ | apply List.Mem.tail)) ?_)))
  · rintro ⟨vo, i⟩ ⟨hvo, h2⟩
    simp only at hvo h2 ⊢
    refine len_fact (by repeat (first | exact List.Mem.head _ | apply List.Mem.tail)) fun _ => ?_
    refine cmp_split _ rfl (fun hlt => ?_) (fun hlt => ?_)
    · have hin : i < p.length := by omega
      have hll : (lst i g).length = i := lst_len _ _
      have hpi := hp.get i
      have hmul := fun u u' => rMulJ u u' cj (p.getD i z0) hcl (by omega) hpi.1 (by omega)
      rw [hcj, hgi i hin] at hmul
      refine draw_rule [0, 1, 2, 3, 4, 5, 6, 7, 8, 9] [0, 1, 2, 3, 4, 5, 6, 7, 8, 9] (by kernel_rfl) (by kernel_rfl) ?_
      refine load_fact (d := J cj) (by repeat (first | exact List.Mem.head _ | apply List.Mem.tail)) (load_J _) fun y1 => ?_
      refine index_fact (by repeat (first | exact List.Mem.head _ | apply List.Mem.tail)) i rfl hin fun b1 => ?_
      refine load_fact (d := J (p.getD i z0)) (by repeat (first | exact List.Mem.head _ | apply List.Mem.tail)) (load_J _) fun y2 => ?_
      refine call_fn (hmul y1 y2) (Seals.refl _ _) (by repeat (first | exact Sub.nil _ | refine Sub.cons (by repeat (first | exact List.Mem.head _ | apply List.Mem.tail)) ?_)) ?_
      rintro y3 _ _ ⟨rfl, rfl⟩
      refine lit_L (size := 2) (f := J) (z := z0) (e := 30) (cn (g i)) (by decide) (Reads.fact (by repeat (first | exact List.Mem.head _ | apply List.Mem.tail))) rfl fun y4 => ?_
      refine append_L (size := 2) (e := 30) (f := J) (z := z0) (l := (lst i g).map cn) (m := [cn (g i)]) 0 rfl hvo (Knw.fact (by repeat (first | exact List.Mem.head _ | apply List.Mem.tail))) (by simp only [List.length_map, hll, List.length_cons, List.length_nil]; omega) (by simp only [List.length_map, hll, List.length_cons, List.length_nil]; omega) fun vn hvn => ?_
      refine ar rfl (by first | exact ⟨by omega, by omega⟩ | (simp only [inK]; omega)) ?_
      refine again (vn, i + 1) ⟨hvn, by simp only; omega⟩ (by simp only; omega) (by repeat (first | exact trivial | refine ⟨rfl, ?_⟩ | refine ⟨i64_eq (by first | omega | (simp only; omega)), ?_⟩ | refine ⟨u64_eq (by first | omega | (simp only; omega)), ?_⟩)) ?_
      rw [show (lst i g).map cn ++ [cn (g i)] = (lst (i + 1) g).map cn by rw [lst_snoc, List.map_append]; rfl]
      exact Seals.sub (by repeat (first | exact Sub.nil _ | refine Sub.cons (by repeat (first | exact List.Mem.head _ | apply List.Mem.tail)) ?_))
    · have hii : i = p.length := by omega
      subst hii
      refine call_fn (hn vo) (Seals.toldL hvo) (by repeat (first | exact Sub.nil _ | refine Sub.cons (by repeat (first | exact List.Mem.head _ | apply List.Mem.tail)) ?_)) ?_
      rintro r _ _ ⟨rfl, rfl⟩
      exact fin ⟨rfl, rfl⟩ (Seals.sub (by repeat (first | exact Sub.nil _ | refine Sub.cons (by repeat (first | exact List.Mem.head _ | apply List.Mem.tail)) ?_)))
theorem rTimes_meets (v w : Value) (p : Row) (c : Int) (k : Nat) (hp : Fit k p) (hc : sz c k) (hk : k + k ≤ 137438953472) (lp : p.length ≤ 536870912) :
    Meets Tryz.prog 38 [v, w] [(v, V p), (w, zd c)] (fun r os fs => os = [] ∧ fs = [(r, vd (ptim c (vv p)))]) := by
  have h := rTimesJ v w p (cn c) k hp (Lim_lims _) hc.len hk lp
  rw [jv_cn] at h
  exact h
end Go.Proofs.YtdnjahdppgjmlaaGreat

namespace Go.Proofs.YtdnjahdppgjmlaaGreat
open Go.RowKit
theorem rAtN (v : Value) (p : Row) (hp : Fit 1099511627776 p) (i : Nat) : Meets Tryz.prog 65 [v, .int .i64 (i : Nat)] [(v, V p)] (fun r os fs => os = [] ∧ fs = [(r, zd ((vv p).getD i 0))]) := by
  have := rAt_meets v p (i : Nat) hp
  rw [if_neg (by omega), Int.toNat_natCast] at this
  exact this
theorem rPAdd_meets (v w : Value) (p q : Row) (k : Nat) (hp : Fit k p) (hq : Fit k q) (hk : k + 1 ≤ 137438953472) (lp : p.length ≤ 536870912) (lq : q.length ≤ 536870912) :
    Meets Tryz.prog 91 [v, w] [(v, V p), (w, V q)] (fun r os fs => os = [] ∧ fs = [(r, vd (padd (vv p) (vv q)))]) := by
  have a1 := rAtN v p (hp.mono (by omega))
  have a2 := rAtN w q (hq.mono (by omega))
  have hsz : szR (k + 1) (lst (max p.length q.length) fun i => (vv p).getD i 0 + (vv q).getD i 0) := szR.lst fun i _ => by
    have := sz_sub (hp.szR.get i) ((hq.szR.get i).neg)
    rwa [Int.sub_neg] at this
  have hn := fun u => rNormT u (lst (max p.length q.length) fun i => (vv p).getD i 0 + (vv q).getD i 0) (hsz.mono hk) (by rw [lst_len]; omega)
  have hdef : padd (vv p) (vv q) = nrm (lst (max p.length q.length) fun i => (vv p).getD i 0 + (vv q).getD i 0) := by unfold padd; rw [vv_len, vv_len]
  have had := fun u u' i => rAddZ u u' ((vv p).getD i 0) ((vv q).getD i 0) k (hp.szR.get i) (hq.szR.get i) (by omega)
  rw [hdef]
  generalize hg : (fun i => (vv p).getD i 0 + (vv q).getD i 0) = g at *
  have had' : ∀ u u' i, Meets Tryz.prog 63 [u, u'] [(u, zd ((vv p).getD i 0)), (u', zd ((vv q).getD i 0))] (fun r os fs => os = [] ∧ fs = [(r, zd (g i))]) := fun u u' i => by
    rw [← hg]; exact had u u' i
  generalize hm : max p.length q.length = m at *
  refine meets_of_vc Tryz.func91 (by kernel_rfl) rfl (by kernel_rfl) (Nat.le_of_ble_eq_true rfl) ?_
  refine empty_L (size := 2) (e := 30) J z0 (by decide) fun v0 hv0 => ?_
  refine loop_rule (X := Value × Nat) (fun x => ([(0, v), (1, w), (5, x.1), (6, .int .i64 (x.2 : Nat))], [ownL 2 J z0 x.1 ((lst x.2 g).map cn)], [(v, V p), (w, V q)])) (fun x => isSl x.1 ∧ x.2 ≤ m) (fun x => m - x.2) rfl ?_ ?_
  · exact again (v0, 0) ⟨hv0, Nat.zero_le _⟩ trivial (by repeat (first | exact trivial | refine ⟨rfl, ?_⟩ | refine ⟨i64_eq (by first | omega | (simp only; omega)), ?_⟩ | refine ⟨u64_eq (by first | omega | (simp only; omega)), ?_⟩)) (Seals.sub (by repeat (first | exact Sub.nil _ | refine Sub.cons (by repeat (first | exact List.Mem.head _ | apply List.Mem.tail)) ?_)))
  · rintro ⟨vo, i⟩ ⟨hvo, h2⟩
    simp only at hvo h2 ⊢
    refine len_fact (by repeat (first | exact List.Mem.head _ | apply List.Mem.tail)) fun _ => ?_
    refine len_fact (by repeat (first | exact List.Mem.head _ | apply List.Mem.tail)) fun _ => ?_
    refine max2_rule ?_
    refine cmp_split _ rfl (fun hlt => ?_) (fun hlt => ?_)
    · have hin : i < m := by omega
      have hll : (lst i g).length = i := lst_len _ _
      refine call_fn (a1 i) (Seals.refl _ _) (by repeat (first | exact Sub.nil _ | refine Sub.cons (by repeat (first | exact List.Mem.head _ | apply List.Mem.tail)) ?_)) ?_
      rintro y1 _ _ ⟨rfl, rfl⟩
      refine call_fn (a2 i) (Seals.refl _ _) (by repeat (first | exact Sub.nil _ | refine Sub.cons (by repeat (first | exact List.Mem.head _ | apply List.Mem.tail)) ?_)) ?_
      rintro y2 _ _ ⟨rfl, rfl⟩
      refine call_fn (had' y1 y2 i) (Seals.refl _ _) (by repeat (first | exact Sub.nil _ | refine Sub.cons (by repeat (first | exact List.Mem.head _ | apply List.Mem.tail)) ?_)) ?_
      rintro y3 _ _ ⟨rfl, rfl⟩
      refine lit_L (size := 2) (f := J) (z := z0) (e := 30) (cn (g i)) (by decide) (Reads.fact (by repeat (first | exact List.Mem.head _ | apply List.Mem.tail))) rfl fun y4 => ?_
      refine append_L (size := 2) (e := 30) (f := J) (z := z0) (l := (lst i g).map cn) (m := [cn (g i)]) 0 rfl hvo (Knw.fact (by repeat (first | exact List.Mem.head _ | apply List.Mem.tail))) (by simp only [List.length_map, hll, List.length_cons, List.length_nil]; omega) (by simp only [List.length_map, hll, List.length_cons, List.length_nil]; omega) fun vn hvn => ?_
      refine ar rfl (by first | exact ⟨by omega, by omega⟩ | (simp only [inK]; omega)) ?_
      refine again (vn, i + 1) ⟨hvn, by simp only; omega⟩ (by simp only; omega) (by repeat (first | exact trivial | refine ⟨rfl, ?_⟩ | refine ⟨i64_eq (by first | omega | (simp only; omega)), ?_⟩ | refine ⟨u64_eq (by first | omega | (simp only; omega)), ?_⟩)) ?_
      rw [show (lst i g).map cn ++ [cn (g i)] = (lst (i + 1) g).map cn by rw [lst_snoc, List.map_append]; rfl]
      exact Seals.sub (by repeat (first | exact Sub.nil _ | refine Sub.cons (by repeat (first | exact List.Mem.head _ | apply List.Mem.tail)) ?_))
    · have hii : i = m := by omega
      subst hii
      refine call_fn (hn vo) (Seals.toldL hvo) (by repeat (first | exact Sub.nil _ | refine Sub.cons (by repeat (first | exact List.Mem.head _ | apply List.Mem.tail)) ?_)) ?_
      rintro r _ _ ⟨rfl, rfl⟩
      exact fin ⟨rfl, rfl⟩ (Seals.sub (by repeat (first | exact Sub.nil _ | refine Sub.cons (by repeat (first | exact List.Mem.head _ | apply List.Mem.tail)) ?_)))
theorem padd_ptim (l m : List Int) : padd l (ptim (-1) m) = psub l m := padd_neg l m
theorem rPSub_meets (v w : Value) (p q : Row) (k : Nat) (hp : Fit k p) (hq : Fit k q) (h1k : 1 ≤ k) (hk : k + k ≤ 137438953472) (lp : p.length ≤ 536870912) (lq : q.length ≤ 536870912) :
    Meets Tryz.prog 92 [v, w] [(v, V p), (w, V q)] (fun r os fs => os = [] ∧ fs = [(r, vd (psub (vv p) (vv q)))]) := by
  have hr := fun u => rTimes_meets w u q (-1) k hq ((sz_one _ (by decide)).mono h1k) hk lq
  have sn : szR k (ptim (-1) (vv q)) := hq.szR.neg
  have ln : (ptim (-1) (vv q)).length ≤ q.length := by
    have := prai_len (-1) 0 (vv q)
    rw [vv_len] at this
    rw [prai_zero] at this; omega
  have hs := fun u => rPAdd_meets v u p ((ptim (-1) (vv q)).map cn) k hp sn.fit (by omega) lp (by rw [List.length_map]; omega)
  simp only [vv_cn, padd_ptim] at hs
  refine meets_of_vc Tryz.func92 (by kernel_rfl) rfl (by kernel_rfl) (Nat.le_of_ble_eq_true rfl) ?_
  refine call_fn (rOf_meets (-1) (by decide) (by decide)) (Seals.refl _ _) (by repeat (first | exact Sub.nil _ | refine Sub.cons (by repeat (first | exact List.Mem.head _ | apply List.Mem.tail)) ?_)) ?_
  rintro x1 _ _ ⟨rfl, rfl⟩
  refine call_fn (hr x1) (Seals.refl _ _) (by repeat (first | exact Sub.nil _ | refine Sub.cons (by repeat (first | exact List.Mem.head _ | apply List.Mem.tail)) ?_)) ?_
  rintro x2 _ _ ⟨rfl, rfl⟩
  refine call_fn (hs x2) (Seals.refl _ _) (by repeat (first | exact Sub.nil _ | refine Sub.cons (by repeat (first | exact List.Mem.head _ | apply List.Mem.tail)) ?_)) ?_
  rintro r _ _ ⟨rfl, rfl⟩
  exact fin ⟨rfl, rfl⟩ (Seals.sub (by repeat (first | exact Sub.nil _ | refine Sub.cons (by repeat (first | exact List.Mem.head _ | apply List.Mem.tail)) ?_)))
end Go.Proofs.YtdnjahdppgjmlaaGreat

namespace Go.Proofs.YtdnjahdppgjmlaaGreat
open Go.RowKit
theorem poly_meets (v : Value) (l : List Int) (hl : l.length ≤ 1000) (hz : ∀ x, x ∈ l → -9223372036854775808 ≤ x ∧ x < 9223372036854775808) :
    Meets Tryz.prog 18 [v] [(v, IL l)] (fun r os fs => os = [] ∧ fs = [(r, vd l)]) := by
  have hfin : lst l.length (fun i => l.getD i 0) = l := by
    have := lst_map l fun x => x
    rw [List.map_id'] at this
    exact this
  have hg : ∀ i, i < l.length → -9223372036854775808 ≤ l.getD i 0 ∧ l.getD i 0 < 9223372036854775808 := fun i hi => hz _ (getD_mem 0 hi)
  refine meets_of_vc Tryz.func18 (by kernel_rfl) rfl (by kernel_rfl) (Nat.le_of_ble_eq_true rfl) ?_
  refine empty_L (size := 2) (e := 30) J z0 (by decide) fun v0 hv0 => ?_
  refine loop_rule (X := Value × Nat) (fun x => ([(0, v), (3, x.1), (4, .int .i64 (x.2 : Nat))], [ownL 2 J z0 x.1 ((lst x.2 fun i => l.getD i 0).map cn)], [(v, IL l)])) (fun x => isSl x.1 ∧ x.2 ≤ l.length) (fun x => l.length - x.2) rfl ?_ ?_
  · exact again (v0, 0) ⟨hv0, Nat.zero_le _⟩ trivial (by repeat (first | exact trivial | refine ⟨rfl, ?_⟩ | refine ⟨i64_eq (by first | omega | (simp only; omega)), ?_⟩ | refine ⟨u64_eq (by first | omega | (simp only; omega)), ?_⟩)) (Seals.sub (by repeat (first | exact Sub.nil _ | refine Sub.cons (by repeat (first | exact List.Mem.head _ | apply List.Mem.tail)) ?_)))
  · rintro ⟨vo, i⟩ ⟨hvo, h2⟩
    simp only at hvo h2 ⊢
    refine len_fact (by repeat (first | exact List.Mem.head _ | apply List.Mem.tail)) fun _ => ?_
    refine cmp_split _ rfl (fun hlt => ?_) (fun hlt => ?_)
    · have hin : i < l.length := by omega
      have hll : (lst i fun i => l.getD i 0).length = i := lst_len _ _
      refine index_fact (by repeat (first | exact List.Mem.head _ | apply List.Mem.tail)) i rfl hin fun a1 => ?_
      refine load_one (by repeat (first | exact List.Mem.head _ | apply List.Mem.tail)) ?_
      refine call_fn (rOf_meets (l.getD i 0) (hg i hin).1 (hg i hin).2) (Seals.refl _ _) (by repeat (first | exact Sub.nil _ | refine Sub.cons (by repeat (first | exact List.Mem.head _ | apply List.Mem.tail)) ?_)) ?_
      rintro y _ _ ⟨rfl, rfl⟩
      refine lit_L (size := 2) (f := J) (z := z0) (e := 30) (cn (l.getD i 0)) (by decide) (Reads.fact (by repeat (first | exact List.Mem.head _ | apply List.Mem.tail))) rfl fun y4 => ?_
      refine append_L (size := 2) (e := 30) (f := J) (z := z0) (l := (lst i fun i => l.getD i 0).map cn) (m := [cn (l.getD i 0)]) 0 rfl hvo (Knw.fact (by repeat (first | exact List.Mem.head _ | apply List.Mem.tail))) (by simp only [List.length_map, hll, List.length_cons, List.length_nil]; omega) (by simp only [List.length_map, hll, List.length_cons, List.length_nil]; omega) fun vn hvn => ?_
      refine ar rfl (by first | exact ⟨by omega, by omega⟩ | (simp only [inK]; omega)) ?_
      refine again (vn, i + 1) ⟨hvn, by simp only; omega⟩ (by simp only; omega) (by repeat (first | exact trivial | refine ⟨rfl, ?_⟩ | refine ⟨i64_eq (by first | omega | (simp only; omega)), ?_⟩ | refine ⟨u64_eq (by first | omega | (simp only; omega)), ?_⟩)) ?_
      rw [show (lst i fun i => l.getD i 0).map cn ++ [cn (l.getD i 0)] = (lst (i + 1) fun i => l.getD i 0).map cn by rw [lst_snoc, List.map_append]; rfl]
      exact Seals.sub (by repeat (first | exact Sub.nil _ | refine Sub.cons (by repeat (first | exact List.Mem.head _ | apply List.Mem.tail)) ?_))
    · have hii : i = l.length := by omega
      subst hii
      refine fin ⟨rfl, rfl⟩ (Seals.trans (Seals.toldL hvo) ?_)
      rw [hfin]
      exact Seals.sub (by repeat (first | exact Sub.nil _ | refine Sub.cons (by repeat (first | exact List.Mem.head _ | apply List.Mem.tail)) ?_))
theorem sameP_meets (v w : Value) (a b : Row) :
    Meets Tryz.prog 10 [v, w] [(v, V a), (w, V b)] (fun r os fs => os = [] ∧ fs = [] ∧ r = .bool (decide (a = b))) := by
  refine meets_of_vc Tryz.func10 (by kernel_rfl) rfl (by kernel_rfl) (Nat.le_of_ble_eq_true rfl) ?_
  refine call_fn (exactAll_meets v w a b) (Seals.refl _ _) (by repeat (first | exact Sub.nil _ | refine Sub.cons (by repeat (first | exact List.Mem.head _ | apply List.Mem.tail)) ?_)) ?_
  rintro _ _ _ ⟨rfl, rfl, rfl⟩
  exact fin ⟨rfl, rfl, rfl⟩ (Seals.nil _ _)
/-- Two told lists that are the same. -/
theorem sameT (v w : Value) (x y : List Int) (h : x = y) :
    Meets Tryz.prog 10 [v, w] [(v, vd x), (w, vd y)] (fun r os fs => os = [] ∧ fs = [] ∧ r = .bool true) := by
  have := sameP_meets v w (x.map cn) (y.map cn)
  rw [decide_eq_true (by rw [h])] at this
  exact this
/-- Two lists as they came. -/
theorem sameV (v w : Value) (x : Row) :
    Meets Tryz.prog 10 [v, w] [(v, V x), (w, V x)] (fun r os fs => os = [] ∧ fs = [] ∧ r = .bool true) := by
  have := sameP_meets v w x x
  rw [decide_eq_true rfl] at this
  exact this
theorem little_meets (v : Value) (p : Row) :
    Meets Tryz.prog 5 [v] [(v, V p)] (fun r os fs => os = [] ∧ fs = [] ∧ r = .bool (decide (smallR 7 1 p))) := by
  refine meets_of_vc Tryz.func5 (by kernel_rfl) rfl (by kernel_rfl) (Nat.le_of_ble_eq_true rfl) ?_
  refine call_fn (rFits_meets v p 7 1) (Seals.refl _ _) (by repeat (first | exact Sub.nil _ | refine Sub.cons (by repeat (first | exact List.Mem.head _ | apply List.Mem.tail)) ?_)) ?_
  rintro _ _ _ ⟨rfl, rfl, rfl⟩
  exact fin ⟨rfl, rfl, rfl⟩ (Seals.nil _ _)
end Go.Proofs.YtdnjahdppgjmlaaGreat

namespace Go.Proofs.YtdnjahdppgjmlaaGreat
open Go.RowKit
/-- A row, what it stands for, its limbs and length. -/
structure Lk (A : Row) (l : List Int) (k n : Nat) : Prop where
  val : vv A = l
  fit : Fit k A
  len : A.length ≤ n
theorem Lk.raw {n c : Nat} {p : Row} (h : smallR n c p) (hl : limR p) : Lk p (vv p) c n := ⟨rfl, h.fit hl, h.1⟩
theorem Lk.told {l : List Int} {k n : Nat} (h : szR k l) (hn : l.length ≤ n) : Lk (l.map cn) l k n := ⟨vv_cn l, h.fit, by rw [List.length_map]; exact hn⟩
theorem Lk.sz {A : Row} {l : List Int} {k n : Nat} (h : Lk A l k n) : szR k l := by rw [← h.val]; exact h.fit.szR
theorem Lk.ll {A : Row} {l : List Int} {k n : Nat} (h : Lk A l k n) : l.length ≤ n := by rw [← h.val, vv_len]; exact h.len
theorem Lk.mono {A : Row} {l : List Int} {k n k' n' : Nat} (h : Lk A l k n) (hk : k ≤ k') (hn : n ≤ n') : Lk A l k' n' := ⟨h.val, h.fit.mono hk, Nat.le_trans h.len hn⟩
theorem pmul_len (l m : List Int) : (pmul l m).length ≤ l.length + m.length := by
  by_cases h1 : 0 < dg l
  · by_cases h2 : 0 < dg m
    · have := (pmul_dg h1 h2).1
      rw [dg_nm (pmul_nm l m)] at this
      have a1 := dg_le_len l
      have a2 := dg_le_len m
      omega
    · have : pmul l m = [] := (pmul_nm l m).ext Nm.nil fun x => by rw [ev_pmul, dg_zero.1 (show dg m = 0 by omega)]; simp [pev]
      rw [this]; exact Nat.zero_le _
  · have : pmul l m = [] := (pmul_nm l m).ext Nm.nil fun x => by rw [ev_pmul, dg_zero.1 (show dg l = 0 by omega)]; simp [pev]
    rw [this]; exact Nat.zero_le _
theorem szR.pmul {k j : Nat} {l m : List Int} (h : szR k l) (h' : szR j m) (hl : l.length < 18446744073709551616) : szR (k + j + 1) (pmul l m) := by
  have hn : (Go.Proofs.YtdnjahdppgjmlaaGreat.nrm l).length ≤ l.length := nrm_length_le l
  unfold Go.Proofs.YtdnjahdppgjmlaaGreat.pmul
  simp only
  split
  · exact fun x hx => by simp at hx
  · exact szR.nrm (szR.lst fun i _ => conv_sz h.nrm h'.nrm (by omega) i)
section
variable {A B : Row} {l m : List Int} {k j n n' : Nat}
theorem Lk.nrm (h : Lk A l k n) : Lk ((nrm l).map cn) (Go.Proofs.YtdnjahdppgjmlaaGreat.nrm l) k n := Lk.told h.sz.nrm (Nat.le_trans (nrm_length_le _) h.ll)
theorem Lk.add (h : Lk A l k n) (h' : Lk B m k n) : Lk ((padd l m).map cn) (padd l m) (k + 1) n := Lk.told (h.sz.padd h'.sz) (Nat.le_trans (padd_len _ _) (Nat.max_le.2 ⟨h.ll, h'.ll⟩))
theorem Lk.sub (h : Lk A l k n) (h' : Lk B m k n) : Lk ((psub l m).map cn) (psub l m) (k + 1) n := Lk.told (h.sz.psub h'.sz) (Nat.le_trans (psub_len _ _) (Nat.max_le.2 ⟨h.ll, h'.ll⟩))
theorem Lk.mul (h : Lk A l k n) (h' : Lk B m j n') (hn : n < 1073741824) : Lk ((pmul l m).map cn) (pmul l m) (k + j + 1) (n + n') := Lk.told (h.sz.pmul h'.sz (by have := h.ll; omega)) (by have := pmul_len l m; have := h.ll; have := h'.ll; omega)
theorem xMul (v w : Value) (h : Lk A l k n) (h' : Lk B m j n') (hk : k + j + 1 ≤ 137438953472 := by decide) (hn : n ≤ 1073741824 := by decide) (hn' : n' ≤ 1073741824 := by decide) :
    Meets Tryz.prog 17 [v, w] [(v, V A), (w, V B)] (fun r os fs => os = [] ∧ fs = [(r, vd (pmul l m))]) := by
  have := pMul_meets v w A B k j h.fit h'.fit hk (by have := h.len; omega) (by have := h'.len; omega)
  rw [h.val, h'.val] at this; exact this
theorem xShift (v w : Value) {a : Int} (h : Lk A l k n) (ha : sz a j) (hk : k + n * n * (j + 1) + j + 1 ≤ 137438953472 := by decide) (hn : n ≤ 536870912 := by decide) :
    Meets Tryz.prog 19 [v, w] [(v, V A), (w, zd a)] (fun r os fs => os = [] ∧ fs = [(r, vd (pshi a l))]) := by
  have hl := h.len
  have := pShift_meets v w A a k j h.fit ha (by have : A.length * A.length * (j + 1) ≤ n * n * (j + 1) := Nat.mul_le_mul_right _ (Nat.mul_le_mul hl hl); omega) (by omega)
  rw [h.val] at this; exact this
theorem xDivide (v w : Value) (h : Lk A l k n) (h' : Lk B m j n') (hk : k + (n + 1) * (j + 1) ≤ 137438953472 := by decide) (hn : n ≤ 536870912 := by decide) (hn' : n' ≤ 536870912 := by decide) :
    Meets Tryz.prog 21 [v, w] [(v, V A), (w, V B)] (fun r os fs => os = [] ∧ ∃ a t e, r = .tuple #[a, .int .i64 e] ∧ DivSpec l m t e ∧ szR (k + (n + 1) * (j + 1)) t ∧ fs = [(a, vd t)]) := by
  have hl := h.len
  have hm : (A.length + 1) * (j + 1) ≤ (n + 1) * (j + 1) := Nat.mul_le_mul_right _ (by omega)
  have := pDivide_meets v w A B k j h.fit h'.fit (by omega) (by omega) (by have := h'.len; omega)
  rw [h.val, h'.val] at this
  exact this.mono fun r os fs ⟨h1, a, t, e, h2, h3, h4, h5⟩ => ⟨h1, a, t, e, h2, h3, h4.mono (by omega), h5⟩
theorem xRest (v w : Value) (h : Lk A l k n) (h' : Lk B m k n') (h1 : 1 ≤ k := by decide) (hk : re k (n + 1) ≤ 137438953472 := by decide) (hn : n ≤ 536870912 := by decide) (hn' : n' ≤ 536870912 := by decide) :
    Meets Tryz.prog 22 [v, w] [(v, V A), (w, V B)] (fun r os fs => os = [] ∧ ∃ a b T R, (if dg m = 0 then r = .tuple #[a, b, .int .i64 2] ∧ T = [] ∧ R = [] else r = .tuple #[a, b, .int .i64 0] ∧ RestSpec l m T R ∧ szR (re k (n + 1)) T ∧ szR (re k (n + 1)) R ∧ T.length ≤ n ∧ R.length ≤ n) ∧
      fs = [(a, vd T), (b, vd R)]) := by
  have hl := h.len
  have := pRest_meets v w A B k h.fit h'.fit h1 (Nat.le_trans (re_mono (by omega)) hk) (by omega) (by have := h'.len; omega)
  rw [h.val, h'.val] at this
  refine this.mono fun r os fs ⟨h1, a, b, T, R, h2, h3⟩ => ⟨h1, a, b, T, R, ?_, h3⟩
  have hd : dg l ≤ n := Nat.le_trans (dg_le_len _) h.ll
  by_cases h0 : dg m = 0
  · rw [if_pos h0] at h2 ⊢; exact h2
  · rw [if_neg h0] at h2 ⊢
    obtain ⟨q1, q2, q3, q4, q5, q6⟩ := h2
    exact ⟨q1, q2, q3.mono (re_mono (by omega)), q4.mono (re_mono (by omega)), by omega, by omega⟩
theorem xRestP (v w : Value) (h : Lk A l k n) (h' : Lk B m k n') (h0 : 0 < dg m) (h1 : 1 ≤ k := by decide) (hk : re k (n + 1) ≤ 137438953472 := by decide) (hn : n ≤ 536870912 := by decide) (hn' : n' ≤ 536870912 := by decide) :
    Meets Tryz.prog 22 [v, w] [(v, V A), (w, V B)] (fun r os fs => os = [] ∧ ∃ a b T R, r = .tuple #[a, b, .int .i64 0] ∧ RestSpec l m T R ∧ szR (re k (n + 1)) T ∧ szR (re k (n + 1)) R ∧ T.length ≤ n ∧ R.length ≤ n ∧ fs = [(a, vd T), (b, vd R)]) :=
  (xRest v w h h' h1 hk hn hn').mono fun r os fs ⟨h1, a, b, T, R, h2, h3⟩ => by
    rw [if_neg (by omega)] at h2
    obtain ⟨q1, q2, q3, q4, q5, q6⟩ := h2
    exact ⟨h1, a, b, T, R, q1, q2, q3, q4, q5, q6, h3⟩
theorem xContent (v : Value) (h : Lk A l k n) (hk : k ≤ 137438953472 := by decide) :
    Meets Tryz.prog 8 [v] [(v, V A)] (fun r os fs => os = [] ∧ fs = [(r, zd (cont l : Nat))]) := by
  have := pContent_meets v A k h.fit hk
  rw [h.val] at this; exact this
theorem xPrimitive (v : Value) (h : Lk A l k n) (hk : k ≤ 137438953472 := by decide) (hn : n ≤ 1073741824 := by decide) :
    Meets Tryz.prog 11 [v] [(v, V A)] (fun r os fs => os = [] ∧ fs = [(r, vd (pprim l))]) := by
  have := pPrimitive_meets v A k h.fit hk (by have := h.len; omega)
  rw [h.val] at this; exact this
theorem xGcd (v w : Value) (h : Lk A l k n) (h' : Lk B m k n) (h1 : 1 ≤ k := by decide) (hk : ge k n n * (n + 2) ≤ 137438953472 := by decide) (hn : n ≤ 536870912 := by decide) :
    Meets Tryz.prog 13 [v, w] [(v, V A), (w, V B)] (fun r os fs => os = [] ∧ ∃ G, Nm G ∧ Gc G l m ∧ fs = [(r, vd G)]) := by
  have := pGcd_meets v w A B k n h.fit h'.fit h1 h.len h'.len hn hk
  rw [h.val, h'.val] at this; exact this
theorem xSimple (v : Value) (h : Lk A l k n) (hk : ge (k + 1) n n * (n + 2) ≤ 137438953472 := by decide) (hd : k + (n + 1) * (dvk (k + 1) n + 1) ≤ 137438953472 := by decide) (hn : n ≤ 268435456 := by decide) :
    Meets Tryz.prog 15 [v] [(v, V A)] (fun r os fs => os = [] ∧ ∃ s, SimSpec l s ∧ szR (dvk k n) s ∧ fs = [(r, vd s)]) := by
  have := pSimple_meets v A k n h.fit h.len hn hk hd
  rw [h.val] at this; exact this
end
end Go.Proofs.YtdnjahdppgjmlaaGreat

namespace Go.Proofs.YtdnjahdppgjmlaaGreat
open Go.RowKit
instance (l : List Int) : Decidable (Nm l) := inferInstanceAs (Decidable (_ = _))
theorem sz_small (x : Int) (h : x.natAbs < 18446744073709551616) : sz x 1 := by
  unfold sz; simpa using h
theorem div_is {p q t u : List Int} {e : Int} (h : DivSpec p q t e) (hq : 0 < dg q) (hu : Nm u) (e' : ∀ x, pev p x = pev q x * pev u x) : t = u ∧ e = 0 := by
  obtain ⟨h1, h2⟩ := h.ok hq ⟨u, e'⟩
  exact ⟨h.tn.ext hu (cancel hq fun x => by rw [← h2, e']), h1⟩
theorem shown_no : ¬ Dv [1, 1] [0, 0, 1] := fun ⟨u, hu⟩ => by
  have := hu (-1)
  simp [pev] at this
theorem shown_gcd {G : List Int} (hn : Nm G) (h : Gc G [-2, 0, 2] [4, 4]) : G = [2, 2] := by
  have e : Gc (ptim (Nat.gcd (cont [-2, 0, 2]) (cont [4, 4]) : Nat) [1, 1]) [-2, 0, 2] [4, 4] := gcd_end (fun _ => by decide) (fun h => by simp [dg, nrm] at h) fun h hh => by
    have e1 : pprim [-2, 0, 2] = [-1, 0, 1] := by decide
    have e2 : pprim [4, 4] = [1, 1] := by decide
    rw [e1, e2]
    exact ⟨fun k => ⟨k.trans ⟨[-1, 1], fun x => by simp only [pev]; grind⟩, k⟩, fun k => k.2⟩
  exact hn.ext (by decide) fun x => by
    rw [h.unique e]
    have : ptim (Nat.gcd (cont [-2, 0, 2]) (cont [4, 4]) : Nat) [1, 1] = [2, 2] := by decide
    rw [this]
theorem shown_sim : SimSpec [0, 0, -3, 3] [0, -1, 1] := by
  have e0 : pprim [0, 0, -3, 3] = [0, 0, -1, 1] := by decide
  have ed : pder [0, 0, -1, 1] = [0, -2, 3] := by decide
  refine ⟨by decide, fun h => by simp [dg, nrm] at h, fun _ => ⟨[0, 1], ?_, fun x => by rw [e0]; simp only [pev]; grind⟩⟩
  rw [e0, ed]
  have e : Gc (ptim (Nat.gcd (cont [0, 0, -1, 1]) (cont [0, -2, 3]) : Nat) [0, 1]) [0, 0, -1, 1] [0, -2, 3] := gcd_end (fun _ => by decide) (fun h => by simp [dg, nrm] at h) fun h hh => by
    have e1 : pprim [0, 0, -1, 1] = [0, 0, -1, 1] := by decide
    have e2 : pprim [0, -2, 3] = [0, -2, 3] := by decide
    rw [e1, e2]
    refine ⟨fun k => ⟨k.trans ⟨[0, -1, 1], fun x => by simp only [pev]; grind⟩, k.trans ⟨[-2, 3], fun x => by simp only [pev]; grind⟩⟩, fun ⟨k1, k2⟩ => ?_⟩
    refine Dv.prim (k := 2) hh (by decide) ?_
    exact (k2.mul_right (c := [-1, 3]) (d := pmul [0, -2, 3] [-1, 3]) fun x => ev_pmul _ _ _).sub (k1.mul_right (c := [9]) (d := pmul [0, 0, -1, 1] [9]) fun x => ev_pmul _ _ _) fun x => by
      rw [ev_map_mul, ev_pmul, ev_pmul]; simp only [pev]; grind
  have : ptim (Nat.gcd (cont [0, 0, -1, 1]) (cont [0, -2, 3]) : Nat) [0, 1] = [0, 1] := by decide
  rw [this] at e
  exact e
theorem shown_rest : RestSpec [0, 0, 1] [1, 2] [-1, 2] [1] := by
  refine ⟨by decide, by decide, by decide, fun x => ?_⟩
  have e1 : ld [1, 2] ^ (dg [0, 0, 1] + 1 - dg [1, 2]) = 4 := by decide
  rw [e1]
  simp only [pev]; grind
theorem lkd (l : List Int) {n : Nat} (h : szR 1 l) (hn : l.length ≤ n) : Lk (l.map cn) l 1 n := Lk.told h hn
theorem small_szR {l : List Int} (h : ∀ x, x ∈ l → x.natAbs < 18446744073709551616) : szR 1 l := fun x hx => by
  have := h x hx
  unfold sz; simpa using this
theorem shownP_meets : Meets Tryz.prog 4 [] [] (fun r os fs => os = [] ∧ fs = [] ∧ r = .bool true) := by
  have k1 : Lk ([1, 1].map cn) [1, 1] 1 4 := lkd _ (small_szR (by decide)) (by decide)
  have k2 : Lk ([-1, 1].map cn) [-1, 1] 1 4 := lkd _ (small_szR (by decide)) (by decide)
  have k3 : Lk ([0, 0, 1].map cn) [0, 0, 1] 1 4 := lkd _ (small_szR (by decide)) (by decide)
  have k4 : Lk ([-1, 0, 1].map cn) [-1, 0, 1] 1 4 := lkd _ (small_szR (by decide)) (by decide)
  have k5 : Lk ([1, 2].map cn) [1, 2] 1 4 := lkd _ (small_szR (by decide)) (by decide)
  have k6 : Lk ([-2, 0, 2].map cn) [-2, 0, 2] 1 4 := lkd _ (small_szR (by decide)) (by decide)
  have k7 : Lk ([4, 4].map cn) [4, 4] 1 4 := lkd _ (small_szR (by decide)) (by decide)
  have k8 : Lk ([0, 0, -3, 3].map cn) [0, 0, -3, 3] 1 4 := lkd _ (small_szR (by decide)) (by decide)
  refine meets_of_vc Tryz.func4 (by kernel_rfl) rfl (by kernel_rfl) (Nat.le_of_ble_eq_true rfl) ?_
  refine lit_IL [1, 1] rfl rfl (by decide) fun s1 => ?_
  refine call_fn (poly_meets s1 [1, 1] (by decide) (by decide)) (Seals.refl _ _) (by repeat (first | exact Sub.nil _ | refine Sub.cons (by repeat (first | exact List.Mem.head _ | apply List.Mem.tail)) ?_)) ?_
  rintro y1 _ _ ⟨rfl, rfl⟩
  refine lit_IL [-1, 1] rfl rfl (by decide) fun s2 => ?_
  refine call_fn (poly_meets s2 [-1, 1] (by decide) (by decide)) (Seals.refl _ _) (by repeat (first | exact Sub.nil _ | refine Sub.cons (by repeat (first | exact List.Mem.head _ | apply List.Mem.tail)) ?_)) ?_
  rintro y2 _ _ ⟨rfl, rfl⟩
  refine call_fn (xMul y1 y2 k1 k2) (Seals.refl _ _) (by repeat (first | exact Sub.nil _ | refine Sub.cons (by repeat (first | exact List.Mem.head _ | apply List.Mem.tail)) ?_)) ?_
  rintro a _ _ ⟨rfl, rfl⟩
  refine lit_IL [0, 0, 1] rfl rfl (by decide) fun s3 => ?_
  refine call_fn (poly_meets s3 [0, 0, 1] (by decide) (by decide)) (Seals.refl _ _) (by repeat (first | exact Sub.nil _ | refine Sub.cons (by repeat (first | exact List.Mem.head _ | apply List.Mem.tail)) ?_)) ?_
  rintro y3 _ _ ⟨rfl, rfl⟩
  refine call_fn (rOf_meets 2 (by decide) (by decide)) (Seals.refl _ _) (by repeat (first | exact Sub.nil _ | refine Sub.cons (by repeat (first | exact List.Mem.head _ | apply List.Mem.tail)) ?_)) ?_
  rintro y4 _ _ ⟨rfl, rfl⟩
  refine call_fn (xShift y3 y4 (j := 1) k3 (sz_small 2 (by decide))) (Seals.refl _ _) (by repeat (first | exact Sub.nil _ | refine Sub.cons (by repeat (first | exact List.Mem.head _ | apply List.Mem.tail)) ?_)) ?_
  rintro b _ _ ⟨rfl, rfl⟩
  refine lit_IL [-1, 0, 1] rfl rfl (by decide) fun s5 => ?_
  refine call_fn (poly_meets s5 [-1, 0, 1] (by decide) (by decide)) (Seals.refl _ _) (by repeat (first | exact Sub.nil _ | refine Sub.cons (by repeat (first | exact List.Mem.head _ | apply List.Mem.tail)) ?_)) ?_
  rintro y5 _ _ ⟨rfl, rfl⟩
  refine lit_IL [1, 1] rfl rfl (by decide) fun s6 => ?_
  refine call_fn (poly_meets s6 [1, 1] (by decide) (by decide)) (Seals.refl _ _) (by repeat (first | exact Sub.nil _ | refine Sub.cons (by repeat (first | exact List.Mem.head _ | apply List.Mem.tail)) ?_)) ?_
  rintro y6 _ _ ⟨rfl, rfl⟩
  refine call_fn (xDivide y5 y6 k4 k1) (Seals.refl _ _) (by repeat (first | exact Sub.nil _ | refine Sub.cons (by repeat (first | exact List.Mem.head _ | apply List.Mem.tail)) ?_)) ?_
  rintro _ _ _ ⟨rfl, c, t, e, rfl, hs, _, rfl⟩
  obtain ⟨rfl, rfl⟩ := div_is hs (by decide) (u := [-1, 1]) (by decide) fun x => by simp only [pev]; grind
  refine lit_IL [0, 0, 1] rfl rfl (by decide) fun s7 => ?_
  refine call_fn (poly_meets s7 [0, 0, 1] (by decide) (by decide)) (Seals.refl _ _) (by repeat (first | exact Sub.nil _ | refine Sub.cons (by repeat (first | exact List.Mem.head _ | apply List.Mem.tail)) ?_)) ?_
  rintro y7 _ _ ⟨rfl, rfl⟩
  refine lit_IL [1, 1] rfl rfl (by decide) fun s8 => ?_
  refine call_fn (poly_meets s8 [1, 1] (by decide) (by decide)) (Seals.refl _ _) (by repeat (first | exact Sub.nil _ | refine Sub.cons (by repeat (first | exact List.Mem.head _ | apply List.Mem.tail)) ?_)) ?_
  rintro y8 _ _ ⟨rfl, rfl⟩
  refine call_fn (xDivide y7 y8 k3 k1) (Seals.refl _ _) (by repeat (first | exact Sub.nil _ | refine Sub.cons (by repeat (first | exact List.Mem.head _ | apply List.Mem.tail)) ?_)) ?_
  rintro _ _ _ ⟨rfl, c', t', e', rfl, hs', _, rfl⟩
  obtain ⟨rfl, rfl⟩ := hs'.no (by decide) shown_no
  refine lit_IL [0, 0, 1] rfl rfl (by decide) fun s9 => ?_
  refine call_fn (poly_meets s9 [0, 0, 1] (by decide) (by decide)) (Seals.refl _ _) (by repeat (first | exact Sub.nil _ | refine Sub.cons (by repeat (first | exact List.Mem.head _ | apply List.Mem.tail)) ?_)) ?_
  rintro y9 _ _ ⟨rfl, rfl⟩
  refine lit_IL [1, 2] rfl rfl (by decide) fun s10 => ?_
  refine call_fn (poly_meets s10 [1, 2] (by decide) (by decide)) (Seals.refl _ _) (by repeat (first | exact Sub.nil _ | refine Sub.cons (by repeat (first | exact List.Mem.head _ | apply List.Mem.tail)) ?_)) ?_
  rintro y10 _ _ ⟨rfl, rfl⟩
  refine call_fn (xRestP y9 y10 k3 k5 (by decide)) (Seals.refl _ _) (by repeat (first | exact Sub.nil _ | refine Sub.cons (by repeat (first | exact List.Mem.head _ | apply List.Mem.tail)) ?_)) ?_
  rintro _ _ _ ⟨rfl, x1, x2, T, R, rfl, hsp, _, _, _, _, rfl⟩
  obtain ⟨rfl, rfl⟩ := hsp.unique shown_rest
  refine lit_IL [-2, 0, 2] rfl rfl (by decide) fun s11 => ?_
  refine call_fn (poly_meets s11 [-2, 0, 2] (by decide) (by decide)) (Seals.refl _ _) (by repeat (first | exact Sub.nil _ | refine Sub.cons (by repeat (first | exact List.Mem.head _ | apply List.Mem.tail)) ?_)) ?_
  rintro y11 _ _ ⟨rfl, rfl⟩
  refine lit_IL [4, 4] rfl rfl (by decide) fun s12 => ?_
  refine call_fn (poly_meets s12 [4, 4] (by decide) (by decide)) (Seals.refl _ _) (by repeat (first | exact Sub.nil _ | refine Sub.cons (by repeat (first | exact List.Mem.head _ | apply List.Mem.tail)) ?_)) ?_
  rintro y12 _ _ ⟨rfl, rfl⟩
  refine call_fn (xGcd y11 y12 k6 k7) (Seals.refl _ _) (by repeat (first | exact Sub.nil _ | refine Sub.cons (by repeat (first | exact List.Mem.head _ | apply List.Mem.tail)) ?_)) ?_
  rintro d _ _ ⟨rfl, G, nG, gG, rfl⟩
  obtain rfl := shown_gcd nG gG
  refine lit_IL [0, 0, -3, 3] rfl rfl (by decide) fun s13 => ?_
  refine call_fn (poly_meets s13 [0, 0, -3, 3] (by decide) (by decide)) (Seals.refl _ _) (by repeat (first | exact Sub.nil _ | refine Sub.cons (by repeat (first | exact List.Mem.head _ | apply List.Mem.tail)) ?_)) ?_
  rintro y13 _ _ ⟨rfl, rfl⟩
  refine call_fn (xSimple y13 k8) (Seals.refl _ _) (by repeat (first | exact Sub.nil _ | refine Sub.cons (by repeat (first | exact List.Mem.head _ | apply List.Mem.tail)) ?_)) ?_
  rintro s _ _ ⟨rfl, S, hS, _, rfl⟩
  obtain rfl := hS.unique shown_sim
  refine lit_IL [-1, 0, 1] rfl rfl (by decide) fun s14 => ?_
  refine call_fn (poly_meets s14 [-1, 0, 1] (by decide) (by decide)) (Seals.refl _ _) (by repeat (first | exact Sub.nil _ | refine Sub.cons (by repeat (first | exact List.Mem.head _ | apply List.Mem.tail)) ?_)) ?_
  rintro y14 _ _ ⟨rfl, rfl⟩
  refine call_fn (sameT a y14 _ _ (show pmul [1, 1] [-1, 1] = [-1, 0, 1] by decide)) (Seals.refl _ _) (by repeat (first | exact Sub.nil _ | refine Sub.cons (by repeat (first | exact List.Mem.head _ | apply List.Mem.tail)) ?_)) ?_
  rintro _ _ _ ⟨rfl, rfl, rfl⟩
  refine lit_IL [4, 4, 1] rfl rfl (by decide) fun s15 => ?_
  refine call_fn (poly_meets s15 [4, 4, 1] (by decide) (by decide)) (Seals.refl _ _) (by repeat (first | exact Sub.nil _ | refine Sub.cons (by repeat (first | exact List.Mem.head _ | apply List.Mem.tail)) ?_)) ?_
  rintro y15 _ _ ⟨rfl, rfl⟩
  refine call_fn (sameT b y15 _ _ (show pshi 2 [0, 0, 1] = [4, 4, 1] by decide)) (Seals.refl _ _) (by repeat (first | exact Sub.nil _ | refine Sub.cons (by repeat (first | exact List.Mem.head _ | apply List.Mem.tail)) ?_)) ?_
  rintro _ _ _ ⟨rfl, rfl, rfl⟩
  refine lit_IL [-1, 1] rfl rfl (by decide) fun s16 => ?_
  refine call_fn (poly_meets s16 [-1, 1] (by decide) (by decide)) (Seals.refl _ _) (by repeat (first | exact Sub.nil _ | refine Sub.cons (by repeat (first | exact List.Mem.head _ | apply List.Mem.tail)) ?_)) ?_
  rintro y16 _ _ ⟨rfl, rfl⟩
  refine call_fn (sameT c y16 _ _ (rfl)) (Seals.refl _ _) (by repeat (first | exact Sub.nil _ | refine Sub.cons (by repeat (first | exact List.Mem.head _ | apply List.Mem.tail)) ?_)) ?_
  rintro _ _ _ ⟨rfl, rfl, rfl⟩
  refine cmp_true rfl (by decide) ?_
  refine cmp_true rfl (by decide) ?_
  refine lit_IL [-1, 2] rfl rfl (by decide) fun s17 => ?_
  refine call_fn (poly_meets s17 [-1, 2] (by decide) (by decide)) (Seals.refl _ _) (by repeat (first | exact Sub.nil _ | refine Sub.cons (by repeat (first | exact List.Mem.head _ | apply List.Mem.tail)) ?_)) ?_
  rintro y17 _ _ ⟨rfl, rfl⟩
  refine call_fn (sameT x1 y17 _ _ (rfl)) (Seals.refl _ _) (by repeat (first | exact Sub.nil _ | refine Sub.cons (by repeat (first | exact List.Mem.head _ | apply List.Mem.tail)) ?_)) ?_
  rintro _ _ _ ⟨rfl, rfl, rfl⟩
  refine lit_IL [1] rfl rfl (by decide) fun s18 => ?_
  refine call_fn (poly_meets s18 [1] (by decide) (by decide)) (Seals.refl _ _) (by repeat (first | exact Sub.nil _ | refine Sub.cons (by repeat (first | exact List.Mem.head _ | apply List.Mem.tail)) ?_)) ?_
  rintro y18 _ _ ⟨rfl, rfl⟩
  refine call_fn (sameT x2 y18 _ _ (rfl)) (Seals.refl _ _) (by repeat (first | exact Sub.nil _ | refine Sub.cons (by repeat (first | exact List.Mem.head _ | apply List.Mem.tail)) ?_)) ?_
  rintro _ _ _ ⟨rfl, rfl, rfl⟩
  refine cmp_true rfl (by decide) ?_
  refine lit_IL [2, 2] rfl rfl (by decide) fun s19 => ?_
  refine call_fn (poly_meets s19 [2, 2] (by decide) (by decide)) (Seals.refl _ _) (by repeat (first | exact Sub.nil _ | refine Sub.cons (by repeat (first | exact List.Mem.head _ | apply List.Mem.tail)) ?_)) ?_
  rintro y19 _ _ ⟨rfl, rfl⟩
  refine call_fn (sameT d y19 _ _ (rfl)) (Seals.refl _ _) (by repeat (first | exact Sub.nil _ | refine Sub.cons (by repeat (first | exact List.Mem.head _ | apply List.Mem.tail)) ?_)) ?_
  rintro _ _ _ ⟨rfl, rfl, rfl⟩
  refine lit_IL [0, -1, 1] rfl rfl (by decide) fun s20 => ?_
  refine call_fn (poly_meets s20 [0, -1, 1] (by decide) (by decide)) (Seals.refl _ _) (by repeat (first | exact Sub.nil _ | refine Sub.cons (by repeat (first | exact List.Mem.head _ | apply List.Mem.tail)) ?_)) ?_
  rintro y20 _ _ ⟨rfl, rfl⟩
  refine call_fn (sameT s y20 _ _ (rfl)) (Seals.refl _ _) (by repeat (first | exact Sub.nil _ | refine Sub.cons (by repeat (first | exact List.Mem.head _ | apply List.Mem.tail)) ?_)) ?_
  rintro _ _ _ ⟨rfl, rfl, rfl⟩
  exact fin ⟨rfl, rfl, rfl⟩ (Seals.nil _ _)
end Go.Proofs.YtdnjahdppgjmlaaGreat

namespace Go.Proofs.YtdnjahdppgjmlaaGreat
open Go.RowKit
end Go.Proofs.YtdnjahdppgjmlaaGreat

namespace Go.Proofs.YtdnjahdppgjmlaaGreat
open Go.RowKit
theorem exactE (v w : Value) (x y : Int) (h : x = y) : Meets Tryz.prog 7 [v, w] [(v, zd x), (w, zd y)] (fun r os fs => os = [] ∧ fs = [] ∧ r = .bool true) := by
  have := exactW v w x y
  rw [decide_eq_true h] at this
  exact this
end Go.Proofs.YtdnjahdppgjmlaaGreat

namespace Go.Proofs.YtdnjahdppgjmlaaGreat
open Go.RowKit
theorem littleY (v : Value) (p : Row) (h : smallR 7 1 p) :
    Meets Tryz.prog 5 [v] [(v, V p)] (fun r os fs => os = [] ∧ fs = [] ∧ r = .bool true) := by
  have := little_meets v p
  rw [decide_eq_true h] at this
  exact this
theorem littleN (v : Value) (p : Row) (h : ¬ smallR 7 1 p) :
    Meets Tryz.prog 5 [v] [(v, V p)] (fun r os fs => os = [] ∧ fs = [] ∧ r = .bool false) := by
  have := little_meets v p
  rw [decide_eq_false h] at this
  exact this
end Go.Proofs.YtdnjahdppgjmlaaGreat

namespace Go.Proofs.YtdnjahdppgjmlaaGreat
open Go.RowKit
theorem rtimes_eq {Sl P s c Sa y a : Nat} (h : Sl + P * c = Sa * y) (hs : s = c + a * y) : Sl + P * (s % 4294967296) + P * 4294967296 * (s / 4294967296) = (Sa + P * a) * y := by
  have h1 : P * (s % 4294967296) + P * 4294967296 * (s / 4294967296) = P * c + P * (a * y) := by
    rw [Nat.mul_assoc, ← Nat.mul_add, Nat.mod_add_div, hs, Nat.mul_add]
  rw [Nat.add_mul, Nat.mul_assoc P a y]
  omega
theorem rtimes_meets (va : Value) (a : List Nat) (y : Nat) (ha : Dig a) (hy : y < 4294967296) (la : a.length ≤ 2199023255552) :
    Meets Tryz.prog 83 [va, .int .u64 (y : Nat)] [(va, U a)] (fun r os fs => os = [] ∧ fs = [(r, U (digs (dv a * y)))]) := by
  refine meets_of_vc Tryz.func83 (by kernel_rfl) rfl (by kernel_rfl) (Nat.le_of_ble_eq_true rfl) ?_
  refine loop_rule (X := Nat × List Nat × Nat × Value) (fun x => ([(0, va), (1, .int .u64 (y : Nat)), (5, x.2.2.2), (6, .int .u64 (x.2.2.1 : Nat)), (7, .int .i64 (x.1 : Nat))], [ownU x.2.2.2 x.2.1], [(va, U a)]))
    (fun x => x.1 ≤ a.length + 1 ∧ (a.length < x.1 → x.2.2.1 = 0) ∧ x.2.1.length = x.1 ∧ Dig x.2.1 ∧ x.2.2.1 < 4294967296 ∧ isSl x.2.2.2 ∧
      dv x.2.1 + 4294967296 ^ x.1 * x.2.2.1 = dv (a.take x.1) * y) (fun x => (a.length - x.1) * 4294967296 + x.2.2.1) rfl ?_ ?_
  · exact again (0, [], 0, .slice none 0 0) ⟨by simp, fun _ => rfl, rfl, Dig.nil, by simp, isSl_nil, by simp [dv]⟩ trivial (by repeat (first | exact trivial | refine ⟨rfl, ?_⟩ | refine ⟨i64_eq (by first | omega | (simp only; omega)), ?_⟩ | refine ⟨u64_eq (by first | omega | (simp only; omega)), ?_⟩)) ((Seals.nil_U _ _).trans (Seals.sub (by repeat (first | exact Sub.nil _ | refine Sub.cons (by repeat (first | exact List.Mem.head _ | apply List.Mem.tail)) ?_))))
  · rintro ⟨i, l, c, vo⟩ ⟨h1, hz, h2, h3, h4, h0, h5⟩
    simp only at h0 h1 hz h2 h3 h4 h5 ⊢
    have hx := ha.get i
    by_cases hia : i < a.length
    · have hp : a.getD i 0 * y ≤ 4294967295 * 4294967295 := Nat.mul_le_mul (by omega) (by omega)
      have hm : (a.length - i) * 4294967296 = (a.length - (i + 1)) * 4294967296 + 4294967296 := by omega
      refine len_fact (by repeat (first | exact List.Mem.head _ | apply List.Mem.tail)) fun _ => ?_
      refine cmp_true rfl (by omega) ?_
      refine len_fact (by repeat (first | exact List.Mem.head _ | apply List.Mem.tail)) fun _ => ?_
      refine cmp_true rfl (by omega) ?_
      refine index_fact (by repeat (first | exact List.Mem.head _ | apply List.Mem.tail)) i rfl hia fun p => ?_
      refine load_one (by repeat (first | exact List.Mem.head _ | apply List.Mem.tail)) ?_
      refine ar_wrap rfl ((a.getD i 0 * y : Nat) : Int) (by rw [← Int.natCast_mul]; exact wrap_in ⟨Int.natCast_nonneg _, by omega⟩) ?_
      have hs : c + a.getD i 0 * y = c + a.getD i 0 * y := rfl
      generalize hq : a.getD i 0 * y = q at *
      refine ar_wrap rfl ((c + q : Nat) : Int) (by rw [← Int.natCast_add]; exact wrap_in ⟨Int.natCast_nonneg _, by omega⟩) ?_
      generalize hse : c + q = s at *
      refine rem_rule (by omega) (by omega) ?_
      refine lit_U ((s) % 4294967296) (by omega) fun w => ?_
      refine append_U 0 rfl h0 (Knw.fact (by repeat (first | exact List.Mem.head _ | apply List.Mem.tail))) (by simp; omega) (by simp; omega) fun v2 hv2 => ?_
      refine quo_rule (by omega) (by omega) (by first | exact ⟨by omega, by omega⟩ | (simp only [inK]; omega)) ?_
      refine ar rfl (by first | exact ⟨by omega, by omega⟩ | (simp only [inK]; omega)) ?_
      refine again (i + 1, l ++ [(s) % 4294967296], (s) / 4294967296, v2) ⟨by simp only; omega, fun h => by simp only at h ⊢; omega, by simp [h2], h3.append (Dig.cons (by omega) Dig.nil), by simp only; omega, hv2, ?_⟩ (by simp only; omega) (by repeat (first | exact trivial | refine ⟨rfl, ?_⟩ | refine ⟨i64_eq (by first | omega | (simp only; omega)), ?_⟩ | refine ⟨u64_eq (by first | omega | (simp only; omega)), ?_⟩)) (Seals.sub (by repeat (first | exact Sub.nil _ | refine Sub.cons (by repeat (first | exact List.Mem.head _ | apply List.Mem.tail)) ?_)))
      simp only
      rw [dv_append, h2, dv_take_succ, Nat.pow_succ]
      simp only [dv, Nat.mul_zero, Nat.add_zero]
      exact rtimes_eq h5 (by rw [hq, hse])
    · have ha0 := getD_of_le (l := a) (i := i) (by omega)
      by_cases hc : 0 < c
      · (repeat (first | (refine len_fact (by repeat (first | exact List.Mem.head _ | apply List.Mem.tail)) fun _ => ?_) | (refine cmp_true rfl (by omega) ?_) | (refine cmp_false rfl (by omega) ?_) | (refine index_fact (by repeat (first | exact List.Mem.head _ | apply List.Mem.tail)) _ rfl (by omega) fun _ => ?_) | (refine load_one (by repeat (first | exact List.Mem.head _ | apply List.Mem.tail)) ?_) | (refine ar rfl (by first | exact ⟨by omega, by omega⟩ | (simp only [inK]; omega)) ?_)))
        refine rem_rule (by omega) (by omega) ?_
        refine lit_U ((c) % 4294967296) (by omega) fun w => ?_
        refine append_U 0 rfl h0 (Knw.fact (by repeat (first | exact List.Mem.head _ | apply List.Mem.tail))) (by simp; omega) (by simp; omega) fun v2 hv2 => ?_
        refine quo_rule (by omega) (by omega) (by first | exact ⟨by omega, by omega⟩ | (simp only [inK]; omega)) ?_
        refine ar rfl (by first | exact ⟨by omega, by omega⟩ | (simp only [inK]; omega)) ?_
        refine again (i + 1, l ++ [(c) % 4294967296], (c) / 4294967296, v2) ⟨by simp only; omega, fun h => by simp only at h ⊢; omega, by simp [h2], h3.append (Dig.cons (by omega) Dig.nil), by simp only; omega, hv2, ?_⟩ (by simp only; omega) (by repeat (first | exact trivial | refine ⟨rfl, ?_⟩ | refine ⟨i64_eq (by first | omega | (simp only; omega)), ?_⟩ | refine ⟨u64_eq (by first | omega | (simp only; omega)), ?_⟩)) (Seals.sub (by repeat (first | exact Sub.nil _ | refine Sub.cons (by repeat (first | exact List.Mem.head _ | apply List.Mem.tail)) ?_)))
        simp only
        rw [dv_append, h2, dv_take_succ, Nat.pow_succ]
        simp only [dv, Nat.mul_zero, Nat.add_zero]
        exact rtimes_eq h5 (by rw [ha0, Nat.zero_mul, Nat.add_zero])
      · (repeat (first | (refine len_fact (by repeat (first | exact List.Mem.head _ | apply List.Mem.tail)) fun _ => ?_) | (refine cmp_true rfl (by omega) ?_) | (refine cmp_false rfl (by omega) ?_) | (refine index_fact (by repeat (first | exact List.Mem.head _ | apply List.Mem.tail)) _ rfl (by omega) fun _ => ?_) | (refine load_one (by repeat (first | exact List.Mem.head _ | apply List.Mem.tail)) ?_) | (refine ar rfl (by first | exact ⟨by omega, by omega⟩ | (simp only [inK]; omega)) ?_)))
        refine call_fn (rTrim_meets vo l) (Seals.U 0 rfl h0) (by repeat (first | exact Sub.nil _ | refine Sub.cons (by repeat (first | exact List.Mem.head _ | apply List.Mem.tail)) ?_)) ?_
        rintro r _ _ ⟨rfl, rfl⟩
        refine fin ⟨rfl, rfl⟩ (Seals.cons ((Knw.fact (by repeat (first | exact List.Mem.head _ | apply List.Mem.tail))).cast ?_) (Seals.nil _ _))
        rw [List.take_of_length_le (by omega), show c = 0 by omega] at h5
        rw [trimD_eq h3]
        congr 2
theorem lit_Uo {P : Program} {t e : TypeId} {bytes : Nat} {y : Int} {os : List Own} {fs : List Fact} {K : Cont} [ht : TSl P t e 1] [he : TEl P e 1 bytes] (x : Nat) (hx : y = (x : Int)) (k : ∀ v, isSl v → K v (ownU v [x] :: os) fs) :
    BuildSliceK P t 1 [(0, .int .u64 y)] os fs K := by
  subst hx
  have h1 := buildSlice_own (P := P) (t := t) (os := os) (fs := fs) (K := fun u os' fs' => ∃ os'' fs'', Seals os' fs' os'' fs'' ∧ K u os'' fs'') (n := 1) [.int .u64 (x : Int)] [.one (.int .u64 (x : Int))] rfl rfl (by decide) (by decide)
    ⟨Reads.one rfl, rfl, trivial⟩
  refine ⟨Grw.sealed (h1 fun v hv => ⟨_, _, ?_, k v hv⟩).out⟩
  exact Seals.own_cong (os := own1 v 1 1 (fun i => [Dat.one (.int .u64 (x : Int))].getD i (.one undef)) :: os) (fs := fs) 0 (n' := [x].length) (UE [x]) rfl rfl fun i hi => by
    have : i = 0 := by omega
    subst this; rfl
/-- A digit of a quotient. -/
theorem digit_of {R Y lo : Nat} (h1 : lo * Y ≤ R) (h2 : R < (lo + 1) * Y) : R / Y = lo ∧ R - Y * lo = R % Y := by
  have hy : 0 < Y := Nat.pos_of_ne_zero fun e => by subst e; simp at h2
  have e : R / Y = lo := by
    have a1 := (Nat.le_div_iff_mul_le hy).2 h1
    have a2 := (Nat.div_lt_iff_lt_mul hy).2 h2
    omega
  exact ⟨e, by rw [← e, Nat.mod_eq_sub]⟩
theorem dv_drop {l : List Nat} {i : Nat} (h : i < l.length) : dv (l.drop i) = l.getD i 0 + 4294967296 * dv (l.drop (i + 1)) := by
  rw [List.drop_eq_getElem_cons h]
  simp only [dv]
  rw [List.getD_eq_getElem?_getD, List.getElem?_eq_getElem h]; rfl
theorem dv_drop_set {l : List Nat} {i x : Nat} (h : i < l.length) : dv ((l.set i x).drop i) = x + 4294967296 * dv (l.drop (i + 1)) := by
  rw [dv_drop (by simpa using h), getD_set h, if_pos rfl, List.drop_set_of_lt (by omega)]
/-- One step of a division from the top. -/
theorem div_step1 {X x Q R Y q r : Nat} (h : X = Q * Y + R) (hq : R * 4294967296 + x = q * Y + r) : x + 4294967296 * X = (q + 4294967296 * Q) * Y + r := by
  rw [h, Nat.add_mul, Nat.mul_add, ← Nat.mul_assoc]
  omega
theorem lims_len_le {m n : Nat} (h : m ≤ n) : (lims m).length ≤ (lims n).length := lims_length_le (by
  have := nv_lt (Lim_lims n)
  rw [nv_lims] at this
  omega)
theorem rDivMod_meets (va vb : Value) (a b : List Nat) (ha : Lim a) (hb : Lim b) (la : a.length ≤ 274877906944) (lb : b.length ≤ 274877906944) (h0 : nv b ≠ 0) :
    Meets Tryz.prog 62 [va, vb] [(va, U a), (vb, U b)] (fun r os fs => os = [] ∧ ∃ q m, r = .tuple #[q, m, .bool true] ∧ fs = [(q, U (lims (nv a / nv b))), (m, U (lims (nv a % nv b)))]) := by
  have h1 := digs_len ha
  have h2 := digs_len hb
  have dA := Dig_digs (nv a)
  have dB := Dig_digs (nv b)
  have eA := dv_digs (nv a)
  have eB := dv_digs (nv b)
  have hB0 : (digs (nv b)).length ≠ 0 := fun h => h0 (digs_eq_nil.1 (List.eq_nil_of_length_eq_zero h))
  have hdm := digits_meets va a ha (by omega)
  have hdm2 := digits_meets vb b hb (by omega)
  generalize hX : digs (nv a) = x at *
  generalize hY : digs (nv b) = y at *
  have hyb : ∀ n, digs (dv y * n) = digs (nv b * n) := fun n => by rw [eB]
  generalize hM : nv a = M at *
  generalize hN : nv b = N at *
  refine meets_of_vc Tryz.func62 (by kernel_rfl) rfl (by kernel_rfl) (Nat.le_of_ble_eq_true rfl) ?_
  refine call_fn hdm (Seals.refl _ _) (by repeat (first | exact Sub.nil _ | refine Sub.cons (by repeat (first | exact List.Mem.head _ | apply List.Mem.tail)) ?_)) ?_
  rintro vx _ _ ⟨rfl, rfl⟩
  refine call_fn hdm2 (Seals.refl _ _) (by repeat (first | exact Sub.nil _ | refine Sub.cons (by repeat (first | exact List.Mem.head _ | apply List.Mem.tail)) ?_)) ?_
  rintro vy _ _ ⟨rfl, rfl⟩
  refine len_fact (by repeat (first | exact List.Mem.head _ | apply List.Mem.tail)) fun _ => ?_
  refine cmp_false rfl (by omega) ?_
  refine len_fact (by repeat (first | exact List.Mem.head _ | apply List.Mem.tail)) fun _ => ?_
  refine make_U x.length (by omega) (by omega) (by omega) (by omega) fun vq hq => ?_
  refine len_fact (by repeat (first | exact List.Mem.head _ | apply List.Mem.tail)) fun _ => ?_
  refine cmp_split _ rfl (fun hone => ?_) (fun hone => ?_)
  · have hy1 : y.length = 1 := by omega
    have hyN : y.getD 0 0 = N := by
      obtain ⟨t, ht⟩ := List.length_eq_one_iff.1 hy1
      rw [ht] at eB ⊢
      simpa [dv] using eB
    have hNlt : N < 4294967296 := by rw [← hyN]; exact dB.get 0
    refine len_fact (by repeat (first | exact List.Mem.head _ | apply List.Mem.tail)) fun _ => ?_
    refine ar rfl (by first | exact ⟨by omega, by omega⟩ | (simp only [inK]; omega)) ?_
    refine loop_rule (X := Nat × List Nat × Nat) (fun z => ([(7, vx), (8, vy), (9, vq), (10, .int .u64 (z.2.2 : Nat)), (11, .int .i64 ((z.1 : Int) - 1))], [ownU vq z.2.1], [(vx, U x), (vy, U y)]))
      (fun z => z.1 ≤ x.length ∧ z.2.1.length = x.length ∧ Dig z.2.1 ∧ z.2.2 < N ∧ dv (x.drop z.1) = dv (z.2.1.drop z.1) * N + z.2.2) (fun z => z.1) rfl ?_ ?_
    · exact again (x.length, List.replicate x.length 0, 0) ⟨Nat.le_refl _, by simp, Dig.replicate _, by simp only; omega, by simp [dv]⟩ trivial (by repeat (first | exact trivial | refine ⟨rfl, ?_⟩ | refine ⟨i64_eq (by first | omega | (simp only; omega)), ?_⟩ | refine ⟨u64_eq (by first | omega | (simp only; omega)), ?_⟩)) (Seals.sub (by repeat (first | exact Sub.nil _ | refine Sub.cons (by repeat (first | exact List.Mem.head _ | apply List.Mem.tail)) ?_)))
    · rintro ⟨k, l, left⟩ ⟨g1, g2, g3, g4, g5⟩
      simp only at g1 g2 g3 g4 g5 ⊢
      refine cmp_split _ rfl (fun hk => ?_) (fun hk => ?_)
      · obtain ⟨i, rfl⟩ : ∃ i, k = i + 1 := ⟨k - 1, by omega⟩
        have hi : i < x.length := by omega
        have hxi := dA.get i
        have hl4 : left * 4294967296 ≤ 4294967294 * 4294967296 := Nat.mul_le_mul_right _ (by omega)
        have hs1 := Nat.mod_lt (left * 4294967296 + x.getD i 0) (show 0 < N by omega)
        have hs2 := Nat.div_add_mod (left * 4294967296 + x.getD i 0) N
        have hdl : (left * 4294967296 + x.getD i 0) / N < 4294967296 := by
          refine (Nat.div_lt_iff_lt_mul (by omega)).2 ?_
          have : (left + 1) * 4294967296 ≤ N * 4294967296 := Nat.mul_le_mul_right _ (by omega)
          rw [Nat.mul_comm 4294967296 N]; omega
        have hdr := dv_drop hi
        have hds := dv_drop_set (l := l) (i := i) (x := (left * 4294967296 + x.getD i 0) / N) (by omega)
        refine ar_wrap rfl ((left * 4294967296 : Nat) : Int) (by rw [show ((left : Int) * 4294967296) = ((left * 4294967296 : Nat) : Int) by omega]; exact wrap_in ⟨Int.natCast_nonneg _, by omega⟩) ?_
        refine index_fact (by repeat (first | exact List.Mem.head _ | apply List.Mem.tail)) i (by omega) hi fun p => ?_
        refine load_one (by repeat (first | exact List.Mem.head _ | apply List.Mem.tail)) ?_
        refine ar_wrap rfl ((left * 4294967296 + x.getD i 0 : Nat) : Int) (by rw [← Int.natCast_add]; exact wrap_in ⟨Int.natCast_nonneg _, by omega⟩) ?_
        have hst := div_step1 (x := x.getD i 0) (q := (left * 4294967296 + x.getD i 0) / N) (r := (left * 4294967296 + x.getD i 0) % N) g5 (by rw [Nat.mul_comm _ N]; omega)
        generalize left * 4294967296 + x.getD i 0 = s at *
        refine index_fact (by repeat (first | exact List.Mem.head _ | apply List.Mem.tail)) 0 rfl (by omega) fun p2 => ?_
        refine load_one (by repeat (first | exact List.Mem.head _ | apply List.Mem.tail)) ?_
        rw [hyN]
        refine quo_rule (by omega) (by omega) (by rw [← Int.natCast_ediv]; exact ⟨Int.natCast_nonneg _, by omega⟩) ?_
        refine index_U 0 rfl hq i (by omega) (by omega) ?_
        refine store_U 0 rfl (s / N) (by rw [Int.natCast_ediv]) (by omega) ?_
        refine index_fact (by repeat (first | exact List.Mem.head _ | apply List.Mem.tail)) 0 rfl (by omega) fun p3 => ?_
        refine load_one (by repeat (first | exact List.Mem.head _ | apply List.Mem.tail)) ?_
        rw [hyN]
        refine rem_rule (by omega) (by omega) ?_
        refine ar rfl (by first | exact ⟨by omega, by omega⟩ | (simp only [inK]; omega)) ?_
        refine again (i, l.set i (s / N), s % N) ⟨by simp only; omega, by simp [g2], g3.set _ hdl, hs1, ?_⟩ (by simp only; omega) ⟨rfl, rfl, rfl, u64_eq (by simp only; rw [Int.natCast_emod]), i64_eq (by simp only; omega), trivial⟩ (Seals.sub (by repeat (first | exact Sub.nil _ | refine Sub.cons (by repeat (first | exact List.Mem.head _ | apply List.Mem.tail)) ?_)))
        simp only
        rw [hdr, hds, hst]
      · have hk0 : k = 0 := by omega
        subst hk0
        rw [List.drop_zero, List.drop_zero, eA] at g5
        have hlen := dv_lt g3
        obtain ⟨e1, e2⟩ := digit_of (R := M) (Y := N) (lo := dv l) (by omega) (by rw [Nat.succ_mul]; omega)
        have e3 : M % N = left := by rw [← e2, Nat.mul_comm N]; omega
        refine call_fn (limbs_meets vq l g3 (by omega)) (Seals.U 0 rfl hq) (by repeat (first | exact Sub.nil _ | refine Sub.cons (by repeat (first | exact List.Mem.head _ | apply List.Mem.tail)) ?_)) ?_
        rintro r1 _ _ ⟨rfl, rfl⟩
        refine lit_U left rfl fun w => ?_
        refine call_fn (limbs_meets w [left] (Dig.cons (by omega) Dig.nil) (by simp)) (Seals.refl _ _) (by repeat (first | exact Sub.nil _ | refine Sub.cons (by repeat (first | exact List.Mem.head _ | apply List.Mem.tail)) ?_)) ?_
        rintro r2 _ _ ⟨rfl, rfl⟩
        refine fin ⟨rfl, r1, r2, rfl, rfl⟩ (Seals.cons ((Knw.fact (by repeat (first | exact List.Mem.head _ | apply List.Mem.tail))).cast (by rw [e1])) (Seals.cons ((Knw.fact (by repeat (first | exact List.Mem.head _ | apply List.Mem.tail))).cast (by rw [e3]; simp [dv])) (Seals.nil _ _)))
  · have hN0 : 0 < N := by omega
    refine len_fact (by repeat (first | exact List.Mem.head _ | apply List.Mem.tail)) fun _ => ?_
    refine ar rfl (by first | exact ⟨by omega, by omega⟩ | (simp only [inK]; omega)) ?_
    refine loop_rule (X := Nat × List Nat × Nat × Value) (fun z => ([(7, vx), (8, vy), (9, vq), (12, z.2.2.2), (13, .int .i64 ((z.1 : Int) - 1))], [ownU vq z.2.1], [(vx, U x), (vy, U y), (z.2.2.2, U (digs z.2.2.1))]))
      (fun z => z.1 ≤ x.length ∧ z.2.1.length = x.length ∧ Dig z.2.1 ∧ z.2.2.1 < N ∧ dv (x.drop z.1) = dv (z.2.1.drop z.1) * N + z.2.2.1) (fun z => z.1) rfl ?_ ?_
    · refine again (x.length, List.replicate x.length 0, 0, .slice none 0 0) ⟨Nat.le_refl _, by simp, Dig.replicate _, by simp only; omega, by simp [dv]⟩ trivial (by repeat (first | exact trivial | refine ⟨rfl, ?_⟩ | refine ⟨i64_eq (by first | omega | (simp only; omega)), ?_⟩ | refine ⟨u64_eq (by first | omega | (simp only; omega)), ?_⟩)) (Seals.trans (Seals.sub (fs' := [(vx, U x), (vy, U y)]) (by repeat (first | exact Sub.nil _ | refine Sub.cons (by repeat (first | exact List.Mem.head _ | apply List.Mem.tail)) ?_))) (Seals.trans (Seals.cons (d := U (digs 0)) (by rw [digs_zero]; exact Knw.nil 1 _) (Seals.sub (fs' := [(vx, U x), (vy, U y)]) (by repeat (first | exact Sub.nil _ | refine Sub.cons (by repeat (first | exact List.Mem.head _ | apply List.Mem.tail)) ?_)))) (Seals.sub (by repeat (first | exact Sub.nil _ | refine Sub.cons (by repeat (first | exact List.Mem.head _ | apply List.Mem.tail)) ?_)))))
    · rintro ⟨k, l, R, vr⟩ ⟨g1, g2, g3, g4, g5⟩
      simp only at g1 g2 g3 g4 g5 ⊢
      refine cmp_split _ rfl (fun hk => ?_) (fun hk => ?_)
      · obtain ⟨i, rfl⟩ : ∃ i, k = i + 1 := ⟨k - 1, by omega⟩
        have hi : i < x.length := by omega
        have hxi := dA.get i
        have hRl : (digs R).length ≤ 549755813888 := Nat.le_trans (digs_len_mono (show R ≤ N by omega)) (by rw [hY]; omega)
        have hcons : trimL ([x.getD i 0] ++ digs R) = digs (R * 4294967296 + x.getD i 0) := by
          rw [trimD_eq (Dig.append (Dig.cons hxi Dig.nil) (Dig_digs R)), dv_append, dv_digs]
          congr 1
          simp [dv]; omega
        have hlt : R * 4294967296 + x.getD i 0 < 4294967296 * N := by
          have : (R + 1) * 4294967296 ≤ N * 4294967296 := Nat.mul_le_mul_right _ (by omega)
          rw [Nat.mul_comm 4294967296 N]; omega
        have hdr := dv_drop hi
        have hst : ∀ lo, lo * N ≤ R * 4294967296 + x.getD i 0 → R * 4294967296 + x.getD i 0 < (lo + 1) * N → dv (x.drop i) = dv ((l.set i lo).drop i) * N + (R * 4294967296 + x.getD i 0 - N * lo) := fun lo q1 q2 => by
          rw [hdr, dv_drop_set (by omega)]
          exact div_step1 g5 (by rw [Nat.mul_comm N lo]; omega)
        refine index_fact (by repeat (first | exact List.Mem.head _ | apply List.Mem.tail)) i (by omega) hi fun p => ?_
        refine load_one (by repeat (first | exact List.Mem.head _ | apply List.Mem.tail)) ?_
        refine lit_Uo (x.getD i 0) rfl fun w hw => ?_
        refine append_U 0 rfl hw (Knw.fact (by repeat (first | exact List.Mem.head _ | apply List.Mem.tail))) (by simp; omega) (by simp; omega) fun v2 hv2 => ?_
        refine call_fn (rTrim_meets v2 ([x.getD i 0] ++ digs R)) (Seals.U 0 rfl hv2) (by repeat (first | exact Sub.nil _ | refine Sub.cons (by repeat (first | exact List.Mem.head _ | apply List.Mem.tail)) ?_)) ?_
        rintro r1 _ _ ⟨rfl, rfl⟩
        rw [hcons]
        generalize R * 4294967296 + x.getD i 0 = S at *
        refine loop_rule (X := Nat × Nat) (fun z => ([(7, vx), (8, vy), (9, vq), (12, r1), (13, .int .i64 (i : Nat)), (14, .int .u64 (z.1 : Nat)), (15, .int .u64 (z.2 : Nat))], [ownU vq l], [(vx, U x), (vy, U y), (r1, U (digs S))]))
          (fun z => z.1 ≤ z.2 ∧ z.2 < 4294967296 ∧ z.1 * N ≤ S ∧ S < (z.2 + 1) * N) (fun z => z.2 - z.1) rfl ?_ ?_
        · exact again (0, 4294967295) ⟨by simp, by simp, by simp, hlt⟩ trivial (by repeat (first | exact trivial | refine ⟨rfl, ?_⟩ | refine ⟨i64_eq (by first | omega | (simp only; omega)), ?_⟩ | refine ⟨u64_eq (by first | omega | (simp only; omega)), ?_⟩)) (Seals.sub (by repeat (first | exact Sub.nil _ | refine Sub.cons (by repeat (first | exact List.Mem.head _ | apply List.Mem.tail)) ?_)))
        · rintro ⟨lo, hi'⟩ ⟨f1, f2, f3, f4⟩
          simp only at f1 f2 f3 f4 ⊢
          refine cmp_split _ rfl (fun hlo => ?_) (fun hlo => ?_)
          · refine ar rfl (by first | exact ⟨by omega, by omega⟩ | (simp only [inK]; omega)) ?_
            refine ar rfl (by first | exact ⟨by omega, by omega⟩ | (simp only [inK]; omega)) ?_
            refine quo_rule (by omega) (by omega) (by first | exact ⟨by omega, by omega⟩ | (simp only [inK]; omega)) ?_
            have hmid : ((lo : Int) + hi' + 1) / 2 = (((lo + hi' + 1) / 2 : Nat) : Int) := by omega
            rw [hmid]
            have hm1 : lo < (lo + hi' + 1) / 2 := by omega
            have hm2 : (lo + hi' + 1) / 2 ≤ hi' := by omega
            generalize (lo + hi' + 1) / 2 = mid at *
            have htm := rtimes_meets vy y mid dB (by omega) (by omega)
            rw [eB] at htm
            refine call_fn htm (Seals.refl _ _) (by repeat (first | exact Sub.nil _ | refine Sub.cons (by repeat (first | exact List.Mem.head _ | apply List.Mem.tail)) ?_)) ?_
            rintro w2 _ _ ⟨rfl, rfl⟩
            refine call_fn (cmpDigits_meets w2 r1 (N * mid) S) (Seals.refl _ _) (by repeat (first | exact Sub.nil _ | refine Sub.cons (by repeat (first | exact List.Mem.head _ | apply List.Mem.tail)) ?_)) ?_
            rintro _ _ _ ⟨rfl, rfl, rfl⟩
            refine cmp_split _ rfl (fun hc => ?_) (fun hc => ?_)
            · have hle : N * mid ≤ S := by
                refine Nat.not_lt.1 fun h => ?_
                have : cmpN (N * mid) S = 1 := by unfold cmpN; rw [if_neg (by omega), if_pos h]
                omega
              exact again (mid, hi') ⟨hm2, f2, by simp only; rw [Nat.mul_comm]; exact hle, f4⟩ (by simp only; omega) (by repeat (first | exact trivial | refine ⟨rfl, ?_⟩ | refine ⟨i64_eq (by first | omega | (simp only; omega)), ?_⟩ | refine ⟨u64_eq (by first | omega | (simp only; omega)), ?_⟩)) (Seals.sub (by repeat (first | exact Sub.nil _ | refine Sub.cons (by repeat (first | exact List.Mem.head _ | apply List.Mem.tail)) ?_)))
            · have hgt : S < N * mid := by
                refine Nat.not_le.1 fun h => ?_
                have : cmpN (N * mid) S ≤ 0 := by
                  unfold cmpN
                  split
                  · decide
                  · split
                    · omega
                    · decide
                omega
              refine ar rfl (by first | exact ⟨by omega, by omega⟩ | (simp only [inK]; omega)) ?_
              refine again (lo, mid - 1) ⟨by simp only; omega, by simp only; omega, f3, ?_⟩ (by simp only; omega) (by repeat (first | exact trivial | refine ⟨rfl, ?_⟩ | refine ⟨i64_eq (by first | omega | (simp only; omega)), ?_⟩ | refine ⟨u64_eq (by first | omega | (simp only; omega)), ?_⟩)) (Seals.sub (by repeat (first | exact Sub.nil _ | refine Sub.cons (by repeat (first | exact List.Mem.head _ | apply List.Mem.tail)) ?_)))
              simp only
              rw [show mid - 1 + 1 = mid by omega, Nat.mul_comm]; exact hgt
          · have hll : hi' = lo := by omega
            subst hll
            have hS := hst hi' f3 f4
            obtain ⟨e1, e2⟩ := digit_of f3 f4
            have hlen : (digs (N * hi')).length ≤ (digs S).length := digs_len_mono (by rw [Nat.mul_comm]; exact f3)
            have hmod := Nat.mod_lt S hN0
            refine index_U 0 rfl hq i rfl (by omega) ?_
            refine store_U 0 rfl hi' rfl (by omega) ?_
            have htm := rtimes_meets vy y hi' dB (by omega) (by omega)
            rw [eB] at htm
            refine call_fn htm (Seals.refl _ _) (by repeat (first | exact Sub.nil _ | refine Sub.cons (by repeat (first | exact List.Mem.head _ | apply List.Mem.tail)) ?_)) ?_
            rintro w2 _ _ ⟨rfl, rfl⟩
            have hSl : (digs S).length ≤ 2199023255552 := by
              refine Nat.le_trans (digs_len_mono (a := S) (show S ≤ N * 4294967296 by rw [Nat.mul_comm]; omega)) ?_
              refine Nat.le_trans (digs_length_le (k := y.length + 1) ?_) (by omega)
              have := dv_lt dB
              rw [eB] at this
              rw [Nat.pow_succ]
              exact Nat.mul_lt_mul_of_pos_right this (by decide)
            have hsb := rsub_meets r1 w2 (digs S) (digs (N * hi')) (Dig_digs _) (Dig_digs _) hSl hlen (by rw [dv_digs, dv_digs, Nat.mul_comm]; exact f3)
            rw [dv_digs, dv_digs] at hsb
            refine call_fn hsb (Seals.refl _ _) (by repeat (first | exact Sub.nil _ | refine Sub.cons (by repeat (first | exact List.Mem.head _ | apply List.Mem.tail)) ?_)) ?_
            rintro w3 _ _ ⟨rfl, rfl⟩
            refine ar rfl (by first | exact ⟨by omega, by omega⟩ | (simp only [inK]; omega)) ?_
            exact again (i, l.set i hi', S - N * hi', w3) ⟨by simp only; omega, by simp [g2], g3.set _ f2, by simp only; omega, hS⟩ (by simp only; omega) (by repeat (first | exact trivial | refine ⟨rfl, ?_⟩ | refine ⟨i64_eq (by first | omega | (simp only; omega)), ?_⟩ | refine ⟨u64_eq (by first | omega | (simp only; omega)), ?_⟩)) (Seals.sub (by repeat (first | exact Sub.nil _ | refine Sub.cons (by repeat (first | exact List.Mem.head _ | apply List.Mem.tail)) ?_)))
      · have hk0 : k = 0 := by omega
        subst hk0
        rw [List.drop_zero, List.drop_zero, eA] at g5
        obtain ⟨e1, e2⟩ := digit_of (R := M) (Y := N) (lo := dv l) (by omega) (by rw [Nat.succ_mul]; omega)
        have e3 : M % N = R := by rw [← e2, Nat.mul_comm N]; omega
        have hRl : (digs R).length ≤ 549755813888 := Nat.le_trans (digs_len_mono (show R ≤ N by omega)) (by rw [hY]; omega)
        refine call_fn (limbs_meets vq l g3 (by omega)) (Seals.U 0 rfl hq) (by repeat (first | exact Sub.nil _ | refine Sub.cons (by repeat (first | exact List.Mem.head _ | apply List.Mem.tail)) ?_)) ?_
        rintro r1 _ _ ⟨rfl, rfl⟩
        refine call_fn (limbs_meets vr (digs R) (Dig_digs _) (by omega)) (Seals.refl _ _) (by repeat (first | exact Sub.nil _ | refine Sub.cons (by repeat (first | exact List.Mem.head _ | apply List.Mem.tail)) ?_)) ?_
        rintro r2 _ _ ⟨rfl, rfl⟩
        refine fin ⟨rfl, r1, r2, rfl, rfl⟩ (Seals.cons ((Knw.fact (by repeat (first | exact List.Mem.head _ | apply List.Mem.tail))).cast (by rw [e1])) (Seals.cons ((Knw.fact (by repeat (first | exact List.Mem.head _ | apply List.Mem.tail))).cast (by rw [e3, dv_digs])) (Seals.nil _ _)))
end Go.Proofs.YtdnjahdppgjmlaaGreat

namespace Go.Proofs.YtdnjahdppgjmlaaGreat
open Go.RowKit
theorem one_sz {e : Nat} (h : 1 ≤ e) : sz 1 e := Nat.lt_of_lt_of_le (show (1 : Int).natAbs < 18446744073709551616 ^ 1 by decide) (Nat.pow_le_pow_right (by decide) h)
theorem div_uniq {x y q r : Int} (h0 : y ≠ 0) (e : x = y * q + r) (h1 : 0 ≤ r) (h2 : r < y.natAbs) : x / y = q ∧ x % y = r := by
  have e1 : x % y = r := by
    rw [e, Int.add_comm, Int.add_mul_emod_self_left]
    rcases Int.lt_or_gt_of_ne h0 with h | h
    · rw [← Int.emod_neg]; exact Int.emod_eq_of_lt h1 (by omega)
    · exact Int.emod_eq_of_lt h1 (by omega)
  refine ⟨?_, e1⟩
  have h3 := Int.mul_ediv_add_emod x y
  rw [e1] at h3
  have h4 : y * (x / y) = y * q := by omega
  exact Int.eq_of_mul_eq_mul_left h0 h4
theorem rAbs_meets (v : Value) (s : Bool) (a : List Nat) (ha : Lim a) (la : a.length ≤ 1099511627776) :
    Meets Tryz.prog 28 [v] [(v, I s a)] (fun r os fs => os = [] ∧ fs = [(r, zd ((iv s a).natAbs : Nat))]) := by
  refine meets_of_vc Tryz.func28 (by kernel_rfl) rfl (by kernel_rfl) (Nat.le_of_ble_eq_true rfl) ?_
  refine box_rule (Reads.fact (d := I s a) (by repeat (first | exact List.Mem.head _ | apply List.Mem.tail))) fun p hp => ?_
  refine alloc_rule (d := I false []) fun o ho => ?_
  refine field_box 1 rfl hp ?_
  refine load_box_field 1 rfl (Part.right (Part.refl _)) (load_L _) fun u => ?_
  refine call_fn (rMake_meets u false a ha la) (Seals.refl _ _) (by repeat (first | exact Sub.nil _ | refine Sub.cons (by repeat (first | exact List.Mem.head _ | apply List.Mem.tail)) ?_)) ?_
  rintro r0 _ _ ⟨rfl, rfl⟩
  rw [show iv false a = ((iv s a).natAbs : Nat) by rw [iv_abs]; simp [iv]]
  generalize ((iv s a).natAbs : Int) = x
  refine store_box (d := zd x) 0 rfl ho rfl (by kernel_rfl) ?_ ?_; exact Reads.fact (by repeat (first | exact List.Mem.head _ | apply List.Mem.tail))
  refine load_box (d := zd x) 0 rfl ho rfl (load_I _ _) fun r => ?_
  exact fin ⟨rfl, rfl⟩ (Seals.trans (Seals.trans (Seals.drop 0 _ _) (Seals.drop 0 _ _)) (Seals.sub (by repeat (first | exact Sub.nil _ | refine Sub.cons (by repeat (first | exact List.Mem.head _ | apply List.Mem.tail)) ?_))))
/-- The signs of a quotient and of what is left. -/
theorem sgn_div {x y : Int} (h0 : y ≠ 0) :
    let q0 : Int := if decide (x < 0) = decide (y < 0) then ((x.natAbs / y.natAbs : Nat) : Int) else -((x.natAbs / y.natAbs : Nat) : Int)
    let r0 : Int := if x < 0 then -((x.natAbs % y.natAbs : Nat) : Int) else ((x.natAbs % y.natAbs : Nat) : Int)
    (r0 < 0 → x / y = (if y < 0 then q0 + 1 else q0 - 1) ∧ x % y = r0 + y.natAbs) ∧ (¬ r0 < 0 → x / y = q0 ∧ x % y = r0) := by
  intro q0 r0
  have hY : 0 < y.natAbs := by omega
  have hm := Nat.mod_lt x.natAbs hY
  have hd := Nat.div_add_mod x.natAbs y.natAbs
  have e : x = y * q0 + r0 := by
    have h1 : ((y.natAbs * (x.natAbs / y.natAbs) + x.natAbs % y.natAbs : Nat) : Int) = x.natAbs := by rw [hd]
    rw [Int.natCast_add, Int.natCast_mul] at h1
    show x = y * (if decide (x < 0) = decide (y < 0) then _ else _) + (if x < 0 then _ else _)
    generalize ((x.natAbs / y.natAbs : Nat) : Int) = Q at *
    generalize ((x.natAbs % y.natAbs : Nat) : Int) = R at *
    by_cases hx : x < 0
    · by_cases hy : y < 0
      · have ey : (y.natAbs : Int) = -y := by omega
        rw [ey, Int.neg_mul] at h1
        simp only [hx, hy, decide_true, if_true]; omega
      · have ey : (y.natAbs : Int) = y := by omega
        rw [ey] at h1
        simp only [hx, hy, decide_true, decide_false, if_true, Bool.true_eq_false, if_false]
        rw [Int.mul_neg]; omega
    · by_cases hy : y < 0
      · have ey : (y.natAbs : Int) = -y := by omega
        rw [ey, Int.neg_mul] at h1
        simp only [hx, hy, decide_true, decide_false, Bool.false_eq_true, if_false]
        rw [Int.mul_neg]; omega
      · have ey : (y.natAbs : Int) = y := by omega
        rw [ey] at h1
        simp only [hx, hy, decide_false, if_true, if_false]; omega
  have hr : r0.natAbs = x.natAbs % y.natAbs := by
    show (if x < 0 then -((x.natAbs % y.natAbs : Nat) : Int) else ((x.natAbs % y.natAbs : Nat) : Int)).natAbs = _
    split <;> omega
  constructor
  · intro hr0
    refine div_uniq h0 ?_ (by omega) (by omega)
    by_cases hy : y < 0
    · rw [if_pos hy, Int.mul_add, Int.mul_one]; omega
    · rw [if_neg hy, Int.mul_sub, Int.mul_one]; omega
  · intro hr0
    exact div_uniq h0 e (by omega) (by omega)
theorem rZDivMod_meets (v w : Value) (s t : Bool) (a b : List Nat) (ha : Lim a) (hb : Lim b) (la : a.length ≤ 34359738368) (lb : b.length ≤ 34359738368) (h0 : iv t b ≠ 0) :
    Meets Tryz.prog 35 [v, w] [(v, I s a), (w, I t b)] (fun r os fs => os = [] ∧ ∃ q m, r = .tuple #[q, m, .bool true] ∧ fs = [(q, zd (iv s a / iv t b)), (m, zd (iv s a % iv t b))]) := by
  have hxs : sz (iv s a) a.length := sz_jv (x := (s, a)) ha (Nat.le_refl _)
  have hys : sz (iv t b) b.length := sz_jv (x := (t, b)) hb (Nat.le_refl _)
  have n1 := fun u => rZNorm_meets u s a ha (by omega)
  have n2 := fun u => rZNorm_meets u t b hb (by omega)
  refine meets_of_vc Tryz.func35 (by kernel_rfl) rfl (by kernel_rfl) (Nat.le_of_ble_eq_true rfl) ?_
  refine box_rule (Reads.fact (d := I s a) (by repeat (first | exact List.Mem.head _ | apply List.Mem.tail))) fun p hp => ?_
  refine box_rule (Reads.fact (d := I t b) (by repeat (first | exact List.Mem.head _ | apply List.Mem.tail))) fun q hq => ?_
  refine alloc_rule (d := I false []) fun o ho => ?_
  refine alloc_rule (d := I false []) fun o2 ho2 => ?_
  refine load_box (d := I s a) 3 rfl hp rfl (load_I _ _) fun v1 => ?_
  refine call_fn (n1 v1) (Seals.refl _ _) (by repeat (first | exact Sub.nil _ | refine Sub.cons (by repeat (first | exact List.Mem.head _ | apply List.Mem.tail)) ?_)) ?_
  rintro v2 _ _ ⟨rfl, rfl⟩
  refine store_box (d := zd (iv s a)) 3 rfl hp rfl (by kernel_rfl) ?_ ?_; exact Reads.fact (by repeat (first | exact List.Mem.head _ | apply List.Mem.tail))
  refine load_box (d := I t b) 2 rfl hq rfl (load_I _ _) fun w1 => ?_
  refine call_fn (n2 w1) (Seals.refl _ _) (by repeat (first | exact Sub.nil _ | refine Sub.cons (by repeat (first | exact List.Mem.head _ | apply List.Mem.tail)) ?_)) ?_
  rintro w2 _ _ ⟨rfl, rfl⟩
  refine store_box (d := zd (iv t b)) 2 rfl hq rfl (by kernel_rfl) ?_ ?_; exact Reads.fact (by repeat (first | exact List.Mem.head _ | apply List.Mem.tail))
  generalize iv s a = x at *
  generalize iv t b = y at *
  have hx1 := hxs.len
  have hy1 := hys.len
  have hsg := sgn_div (x := x) h0
  simp only at hsg
  have hY : 0 < y.natAbs := by omega
  have hR := Nat.mod_lt x.natAbs hY
  have hQ := Nat.div_le_self x.natAbs y.natAbs
  have lQ : (lims (x.natAbs / y.natAbs)).length ≤ 1099511627776 := Nat.le_trans (lims_len_le hQ) (by omega)
  have lR : (lims (x.natAbs % y.natAbs)).length ≤ 1099511627776 := Nat.le_trans (lims_len_le (Nat.le_of_lt hR)) (by omega)
  have hdm := fun u u' => rDivMod_meets u u' (lims x.natAbs) (lims y.natAbs) (Lim_lims _) (Lim_lims _) (by omega) (by omega) (by rw [nv_lims]; omega)
  simp only [nv_lims] at hdm
  have sR : ∀ r : Int, r.natAbs = x.natAbs % y.natAbs → sz r (a.length + b.length + 1) := fun r hr => by
    have h1 := hys.mono (show b.length ≤ a.length + b.length + 1 by omega)
    unfold sz at h1 ⊢; omega
  have sQ : ∀ r : Int, r.natAbs = x.natAbs / y.natAbs → sz r (a.length + b.length + 1) := fun r hr => by
    have h1 := hxs.mono (show a.length ≤ a.length + b.length + 1 by omega)
    unfold sz at h1 ⊢; omega
  have sY : sz ((y.natAbs : Nat) : Int) (a.length + b.length + 1) := by
    have h1 := hys.mono (show b.length ≤ a.length + b.length + 1 by omega)
    unfold sz at h1 ⊢; omega
  have hab := fun u => rAbs_meets u (decide (y < 0)) (lims y.natAbs) (Lim_lims _) (by omega)
  rw [iv_zd] at hab
  obtain ⟨R0, hR0⟩ : ∃ R0 : Int, (if x < 0 then -((x.natAbs % y.natAbs : Nat) : Int) else ((x.natAbs % y.natAbs : Nat) : Int)) = R0 := ⟨_, rfl⟩
  have hR0e : R0 = if decide (x < 0) = true then -((x.natAbs % y.natAbs : Nat) : Int) else ((x.natAbs % y.natAbs : Nat) : Int) := by
    rw [← hR0]
    by_cases h : x < 0
    · simp [h]
    · simp [h]
  have hR0a : R0.natAbs = x.natAbs % y.natAbs := by rw [← hR0]; split <;> omega
  rw [hR0] at hsg
  have sR0 := sR R0 hR0a
  have one : sz 1 (a.length + b.length + 1) := one_sz (by omega)
  have hE : a.length + b.length + 1 ≤ 137438953472 := by omega
  generalize hQn : x.natAbs / y.natAbs = Q at *
  generalize hRn : x.natAbs % y.natAbs = R at *
  generalize a.length + b.length + 1 = E at *
  refine field_box 3 rfl hp ?_
  refine load_box_field (d := U (lims (x).natAbs)) 3 rfl (Part.right (Part.refl _)) (load_L _) fun u1 => ?_
  refine field_box 2 rfl hq ?_
  refine load_box_field (d := U (lims (y).natAbs)) 2 rfl (Part.right (Part.refl _)) (load_L _) fun u2 => ?_
  refine call_fn (hdm u1 u2) (Seals.refl _ _) (by repeat (first | exact Sub.nil _ | refine Sub.cons (by repeat (first | exact List.Mem.head _ | apply List.Mem.tail)) ?_)) ?_
  rintro _ _ _ ⟨rfl, z1, z2, rfl, rfl⟩
  refine field_box 3 rfl hp ?_
  refine load_box_field_one (u := .bool (decide (x < 0))) 3 rfl (Part.left (Part.refl _)) ?_
  refine field_box 2 rfl hq ?_
  refine load_box_field_one (u := .bool (decide (y < 0))) 2 rfl (Part.left (Part.refl _)) ?_
  refine bne_split (fun hc => ?_) (fun hc => ?_)
  · rw [if_neg hc] at hsg
    refine call_fn (rMake_of z1 true Q (-(Q : Int)) lQ rfl) (Seals.refl _ _) (by repeat (first | exact Sub.nil _ | refine Sub.cons (by repeat (first | exact List.Mem.head _ | apply List.Mem.tail)) ?_)) ?_
    rintro m1 _ _ ⟨rfl, rfl⟩
    refine alloc_rule (d := I false []) fun q2 hq2 => ?_
    refine store_box (d := zd (-(Q : Int))) 0 rfl hq2 rfl (by kernel_rfl) ?_ ?_; exact Reads.fact (by repeat (first | exact List.Mem.head _ | apply List.Mem.tail))
    refine field_box 4 rfl hp ?_
    refine load_box_field_one (u := .bool (decide (x < 0))) 4 rfl (Part.left (Part.refl _)) ?_
    refine call_fn (rMake_of z2 (decide (x < 0)) R R0 lR hR0e) (Seals.refl _ _) (by repeat (first | exact Sub.nil _ | refine Sub.cons (by repeat (first | exact List.Mem.head _ | apply List.Mem.tail)) ?_)) ?_
    rintro m2 _ _ ⟨rfl, rfl⟩
    refine alloc_rule (d := I false []) fun r2 hr2 => ?_
    refine store_box (d := zd R0) 0 rfl hr2 rfl (by kernel_rfl) ?_ ?_; exact Reads.fact (by repeat (first | exact List.Mem.head _ | apply List.Mem.tail))
    refine field_box 0 rfl hr2 ?_
    refine load_box_field_one (u := .bool (decide (R0 < 0))) 0 rfl (Part.left (Part.refl _)) ?_
    have sQ0 := sQ (-(Q : Int)) (by omega)
    by_cases hneg : R0 < 0
    · obtain ⟨e1, e2⟩ := hsg.1 hneg
      have had := fun u u' => rAddZ u u' R0 ((y.natAbs : Nat) : Int) E sR0 sY hE
      rw [← e2] at had
      rw [decide_eq_true hneg]
      refine draw_rule [0, 1, 2, 3, 4] [0, 1, 2, 3, 4] (by kernel_rfl) (by kernel_rfl) ?_
      refine load_box (d := zd R0) 0 rfl hr2 rfl (load_I _ _) fun y1 => ?_
      refine load_box (d := zd y) 4 rfl hq rfl (load_I _ _) fun y2 => ?_
      refine call_fn (hab y2) (Seals.refl _ _) (by repeat (first | exact Sub.nil _ | refine Sub.cons (by repeat (first | exact List.Mem.head _ | apply List.Mem.tail)) ?_)) ?_
      rintro y3 _ _ ⟨rfl, rfl⟩
      refine call_fn (had y1 y3) (Seals.refl _ _) (by repeat (first | exact Sub.nil _ | refine Sub.cons (by repeat (first | exact List.Mem.head _ | apply List.Mem.tail)) ?_)) ?_
      rintro y4 _ _ ⟨rfl, rfl⟩
      refine store_box (d := zd (x % y)) 0 rfl hr2 rfl (by kernel_rfl) ?_ ?_; exact Reads.fact (by repeat (first | exact List.Mem.head _ | apply List.Mem.tail))
      refine field_box 4 rfl hq ?_
      refine load_box_field_one (u := .bool (decide (y < 0))) 4 rfl (Part.left (Part.refl _)) ?_
      by_cases hy0 : y < 0
      · rw [if_pos hy0] at e1
        have ha2 := fun u u' => rAddZ u u' (-(Q : Int)) 1 E sQ0 one hE
        rw [← e1] at ha2
        rw [decide_eq_true hy0]
        refine draw_rule [0, 1, 2, 3] [0, 1, 2, 3] (by kernel_rfl) (by kernel_rfl) ?_
        refine load_box (d := zd (-(Q : Int))) 1 rfl hq2 rfl (load_I _ _) fun y5 => ?_
        refine call_fn (rOf_meets 1 (by decide) (by decide)) (Seals.refl _ _) (by repeat (first | exact Sub.nil _ | refine Sub.cons (by repeat (first | exact List.Mem.head _ | apply List.Mem.tail)) ?_)) ?_
        rintro y6 _ _ ⟨rfl, rfl⟩
        refine call_fn (ha2 y5 y6) (Seals.refl _ _) (by repeat (first | exact Sub.nil _ | refine Sub.cons (by repeat (first | exact List.Mem.head _ | apply List.Mem.tail)) ?_)) ?_
        rintro y7 _ _ ⟨rfl, rfl⟩
        refine store_box (d := zd (x / y)) 1 rfl hq2 rfl (by kernel_rfl) ?_ ?_; exact Reads.fact (by repeat (first | exact List.Mem.head _ | apply List.Mem.tail))
        refine draw_ord [0, 2, 1, 3, 4] (by kernel_rfl) ?_
        refine ord_split 1 2 (by kernel_rfl) (by kernel_rfl) (by kernel_rfl) ?_ ?_
        · refine ord_go [0, 1, 2, 3, 4] (by kernel_rfl) (by kernel_rfl) ?_
          refine load_box (d := zd (x / y)) 1 rfl hq2 rfl (load_I _ _) fun t1 => ?_
          refine load_box (d := zd (x % y)) 0 rfl hr2 rfl (load_I _ _) fun t2 => ?_
          refine store_box (d := zd (x / y)) 3 rfl ho rfl (by kernel_rfl) ?_ ?_; exact Reads.fact (by repeat (first | exact List.Mem.head _ | apply List.Mem.tail))
          refine store_box (d := zd (x % y)) 2 rfl ho2 rfl (by kernel_rfl) ?_ ?_; exact Reads.fact (by repeat (first | exact List.Mem.head _ | apply List.Mem.tail))
          refine load_box (d := zd (x / y)) 3 rfl ho rfl (load_I _ _) fun r1 => ?_
          refine load_box (d := zd (x % y)) 2 rfl ho2 rfl (load_I _ _) fun r2' => ?_
          exact fin ⟨rfl, r1, r2', rfl, rfl⟩ (Seals.trans (Seals.drop 0 _ _) (Seals.trans (Seals.drop 0 _ _) (Seals.trans (Seals.drop 0 _ _) (Seals.trans (Seals.drop 0 _ _) (Seals.trans (Seals.drop 0 _ _) (Seals.trans (Seals.drop 0 _ _) (Seals.sub (fs' := [(r1, zd (x / y)), (r2', zd (x % y))]) (by repeat (first | exact Sub.nil _ | refine Sub.cons (by repeat (first | exact List.Mem.head _ | apply List.Mem.tail)) ?_)))))))))
        · refine ord_go [0, 2, 1, 3, 4] (by kernel_rfl) (by kernel_rfl) ?_
          refine load_box (d := zd (x / y)) 1 rfl hq2 rfl (load_I _ _) fun t1 => ?_
          refine store_box (d := zd (x / y)) 3 rfl ho rfl (by kernel_rfl) ?_ ?_; exact Reads.fact (by repeat (first | exact List.Mem.head _ | apply List.Mem.tail))
          refine load_box (d := zd (x % y)) 0 rfl hr2 rfl (load_I _ _) fun t2 => ?_
          refine store_box (d := zd (x % y)) 2 rfl ho2 rfl (by kernel_rfl) ?_ ?_; exact Reads.fact (by repeat (first | exact List.Mem.head _ | apply List.Mem.tail))
          refine load_box (d := zd (x / y)) 3 rfl ho rfl (load_I _ _) fun r1 => ?_
          refine load_box (d := zd (x % y)) 2 rfl ho2 rfl (load_I _ _) fun r2' => ?_
          exact fin ⟨rfl, r1, r2', rfl, rfl⟩ (Seals.trans (Seals.drop 0 _ _) (Seals.trans (Seals.drop 0 _ _) (Seals.trans (Seals.drop 0 _ _) (Seals.trans (Seals.drop 0 _ _) (Seals.trans (Seals.drop 0 _ _) (Seals.trans (Seals.drop 0 _ _) (Seals.sub (fs' := [(r1, zd (x / y)), (r2', zd (x % y))]) (by repeat (first | exact Sub.nil _ | refine Sub.cons (by repeat (first | exact List.Mem.head _ | apply List.Mem.tail)) ?_)))))))))
      · rw [if_neg hy0] at e1
        have ha2 := fun u u' => rSubZ u u' (-(Q : Int)) 1 E sQ0 one hE
        rw [← e1] at ha2
        rw [decide_eq_false hy0]
        refine draw_rule [0, 1, 2, 3] [0, 1, 2, 3] (by kernel_rfl) (by kernel_rfl) ?_
        refine load_box (d := zd (-(Q : Int))) 1 rfl hq2 rfl (load_I _ _) fun y5 => ?_
        refine call_fn (rOf_meets 1 (by decide) (by decide)) (Seals.refl _ _) (by repeat (first | exact Sub.nil _ | refine Sub.cons (by repeat (first | exact List.Mem.head _ | apply List.Mem.tail)) ?_)) ?_
        rintro y6 _ _ ⟨rfl, rfl⟩
        refine call_fn (ha2 y5 y6) (Seals.refl _ _) (by repeat (first | exact Sub.nil _ | refine Sub.cons (by repeat (first | exact List.Mem.head _ | apply List.Mem.tail)) ?_)) ?_
        rintro y7 _ _ ⟨rfl, rfl⟩
        refine store_box (d := zd (x / y)) 1 rfl hq2 rfl (by kernel_rfl) ?_ ?_; exact Reads.fact (by repeat (first | exact List.Mem.head _ | apply List.Mem.tail))
        refine draw_ord [0, 2, 1, 3, 4] (by kernel_rfl) ?_
        refine ord_split 1 2 (by kernel_rfl) (by kernel_rfl) (by kernel_rfl) ?_ ?_
        · refine ord_go [0, 1, 2, 3, 4] (by kernel_rfl) (by kernel_rfl) ?_
          refine load_box (d := zd (x / y)) 1 rfl hq2 rfl (load_I _ _) fun t1 => ?_
          refine load_box (d := zd (x % y)) 0 rfl hr2 rfl (load_I _ _) fun t2 => ?_
          refine store_box (d := zd (x / y)) 3 rfl ho rfl (by kernel_rfl) ?_ ?_; exact Reads.fact (by repeat (first | exact List.Mem.head _ | apply List.Mem.tail))
          refine store_box (d := zd (x % y)) 2 rfl ho2 rfl (by kernel_rfl) ?_ ?_; exact Reads.fact (by repeat (first | exact List.Mem.head _ | apply List.Mem.tail))
          refine load_box (d := zd (x / y)) 3 rfl ho rfl (load_I _ _) fun r1 => ?_
          refine load_box (d := zd (x % y)) 2 rfl ho2 rfl (load_I _ _) fun r2' => ?_
          exact fin ⟨rfl, r1, r2', rfl, rfl⟩ (Seals.trans (Seals.drop 0 _ _) (Seals.trans (Seals.drop 0 _ _) (Seals.trans (Seals.drop 0 _ _) (Seals.trans (Seals.drop 0 _ _) (Seals.trans (Seals.drop 0 _ _) (Seals.trans (Seals.drop 0 _ _) (Seals.sub (fs' := [(r1, zd (x / y)), (r2', zd (x % y))]) (by repeat (first | exact Sub.nil _ | refine Sub.cons (by repeat (first | exact List.Mem.head _ | apply List.Mem.tail)) ?_)))))))))
        · refine ord_go [0, 2, 1, 3, 4] (by kernel_rfl) (by kernel_rfl) ?_
          refine load_box (d := zd (x / y)) 1 rfl hq2 rfl (load_I _ _) fun t1 => ?_
          refine store_box (d := zd (x / y)) 3 rfl ho rfl (by kernel_rfl) ?_ ?_; exact Reads.fact (by repeat (first | exact List.Mem.head _ | apply List.Mem.tail))
          refine load_box (d := zd (x % y)) 0 rfl hr2 rfl (load_I _ _) fun t2 => ?_
          refine store_box (d := zd (x % y)) 2 rfl ho2 rfl (by kernel_rfl) ?_ ?_; exact Reads.fact (by repeat (first | exact List.Mem.head _ | apply List.Mem.tail))
          refine load_box (d := zd (x / y)) 3 rfl ho rfl (load_I _ _) fun r1 => ?_
          refine load_box (d := zd (x % y)) 2 rfl ho2 rfl (load_I _ _) fun r2' => ?_
          exact fin ⟨rfl, r1, r2', rfl, rfl⟩ (Seals.trans (Seals.drop 0 _ _) (Seals.trans (Seals.drop 0 _ _) (Seals.trans (Seals.drop 0 _ _) (Seals.trans (Seals.drop 0 _ _) (Seals.trans (Seals.drop 0 _ _) (Seals.trans (Seals.drop 0 _ _) (Seals.sub (fs' := [(r1, zd (x / y)), (r2', zd (x % y))]) (by repeat (first | exact Sub.nil _ | refine Sub.cons (by repeat (first | exact List.Mem.head _ | apply List.Mem.tail)) ?_)))))))))
    · obtain ⟨e1, e2⟩ := hsg.2 hneg
      rw [decide_eq_false hneg]
      rw [← e1, ← e2]
      refine draw_ord [0, 2, 1, 3, 4] (by kernel_rfl) ?_
      refine ord_split 1 2 (by kernel_rfl) (by kernel_rfl) (by kernel_rfl) ?_ ?_
      · refine ord_go [0, 1, 2, 3, 4] (by kernel_rfl) (by kernel_rfl) ?_
        refine load_box (d := zd (x / y)) 1 rfl hq2 rfl (load_I _ _) fun t1 => ?_
        refine load_box (d := zd (x % y)) 0 rfl hr2 rfl (load_I _ _) fun t2 => ?_
        refine store_box (d := zd (x / y)) 3 rfl ho rfl (by kernel_rfl) ?_ ?_; exact Reads.fact (by repeat (first | exact List.Mem.head _ | apply List.Mem.tail))
        refine store_box (d := zd (x % y)) 2 rfl ho2 rfl (by kernel_rfl) ?_ ?_; exact Reads.fact (by repeat (first | exact List.Mem.head _ | apply List.Mem.tail))
        refine load_box (d := zd (x / y)) 3 rfl ho rfl (load_I _ _) fun r1 => ?_
        refine load_box (d := zd (x % y)) 2 rfl ho2 rfl (load_I _ _) fun r2' => ?_
        exact fin ⟨rfl, r1, r2', rfl, rfl⟩ (Seals.trans (Seals.drop 0 _ _) (Seals.trans (Seals.drop 0 _ _) (Seals.trans (Seals.drop 0 _ _) (Seals.trans (Seals.drop 0 _ _) (Seals.trans (Seals.drop 0 _ _) (Seals.trans (Seals.drop 0 _ _) (Seals.sub (fs' := [(r1, zd (x / y)), (r2', zd (x % y))]) (by repeat (first | exact Sub.nil _ | refine Sub.cons (by repeat (first | exact List.Mem.head _ | apply List.Mem.tail)) ?_)))))))))
      · refine ord_go [0, 2, 1, 3, 4] (by kernel_rfl) (by kernel_rfl) ?_
        refine load_box (d := zd (x / y)) 1 rfl hq2 rfl (load_I _ _) fun t1 => ?_
        refine store_box (d := zd (x / y)) 3 rfl ho rfl (by kernel_rfl) ?_ ?_; exact Reads.fact (by repeat (first | exact List.Mem.head _ | apply List.Mem.tail))
        refine load_box (d := zd (x % y)) 0 rfl hr2 rfl (load_I _ _) fun t2 => ?_
        refine store_box (d := zd (x % y)) 2 rfl ho2 rfl (by kernel_rfl) ?_ ?_; exact Reads.fact (by repeat (first | exact List.Mem.head _ | apply List.Mem.tail))
        refine load_box (d := zd (x / y)) 3 rfl ho rfl (load_I _ _) fun r1 => ?_
        refine load_box (d := zd (x % y)) 2 rfl ho2 rfl (load_I _ _) fun r2' => ?_
        exact fin ⟨rfl, r1, r2', rfl, rfl⟩ (Seals.trans (Seals.drop 0 _ _) (Seals.trans (Seals.drop 0 _ _) (Seals.trans (Seals.drop 0 _ _) (Seals.trans (Seals.drop 0 _ _) (Seals.trans (Seals.drop 0 _ _) (Seals.trans (Seals.drop 0 _ _) (Seals.sub (fs' := [(r1, zd (x / y)), (r2', zd (x % y))]) (by repeat (first | exact Sub.nil _ | refine Sub.cons (by repeat (first | exact List.Mem.head _ | apply List.Mem.tail)) ?_)))))))))
  · rw [if_pos hc] at hsg
    refine call_fn (rMake_of z1 false Q (Q : Int) lQ rfl) (Seals.refl _ _) (by repeat (first | exact Sub.nil _ | refine Sub.cons (by repeat (first | exact List.Mem.head _ | apply List.Mem.tail)) ?_)) ?_
    rintro m1 _ _ ⟨rfl, rfl⟩
    refine alloc_rule (d := I false []) fun q2 hq2 => ?_
    refine store_box (d := zd (Q : Int)) 0 rfl hq2 rfl (by kernel_rfl) ?_ ?_; exact Reads.fact (by repeat (first | exact List.Mem.head _ | apply List.Mem.tail))
    refine field_box 4 rfl hp ?_
    refine load_box_field_one (u := .bool (decide (x < 0))) 4 rfl (Part.left (Part.refl _)) ?_
    refine call_fn (rMake_of z2 (decide (x < 0)) R R0 lR hR0e) (Seals.refl _ _) (by repeat (first | exact Sub.nil _ | refine Sub.cons (by repeat (first | exact List.Mem.head _ | apply List.Mem.tail)) ?_)) ?_
    rintro m2 _ _ ⟨rfl, rfl⟩
    refine alloc_rule (d := I false []) fun r2 hr2 => ?_
    refine store_box (d := zd R0) 0 rfl hr2 rfl (by kernel_rfl) ?_ ?_; exact Reads.fact (by repeat (first | exact List.Mem.head _ | apply List.Mem.tail))
    refine field_box 0 rfl hr2 ?_
    refine load_box_field_one (u := .bool (decide (R0 < 0))) 0 rfl (Part.left (Part.refl _)) ?_
    have sQ0 := sQ (Q : Int) (by omega)
    by_cases hneg : R0 < 0
    · obtain ⟨e1, e2⟩ := hsg.1 hneg
      have had := fun u u' => rAddZ u u' R0 ((y.natAbs : Nat) : Int) E sR0 sY hE
      rw [← e2] at had
      rw [decide_eq_true hneg]
      refine draw_rule [0, 1, 2, 3, 4] [0, 1, 2, 3, 4] (by kernel_rfl) (by kernel_rfl) ?_
      refine load_box (d := zd R0) 0 rfl hr2 rfl (load_I _ _) fun y1 => ?_
      refine load_box (d := zd y) 4 rfl hq rfl (load_I _ _) fun y2 => ?_
      refine call_fn (hab y2) (Seals.refl _ _) (by repeat (first | exact Sub.nil _ | refine Sub.cons (by repeat (first | exact List.Mem.head _ | apply List.Mem.tail)) ?_)) ?_
      rintro y3 _ _ ⟨rfl, rfl⟩
      refine call_fn (had y1 y3) (Seals.refl _ _) (by repeat (first | exact Sub.nil _ | refine Sub.cons (by repeat (first | exact List.Mem.head _ | apply List.Mem.tail)) ?_)) ?_
      rintro y4 _ _ ⟨rfl, rfl⟩
      refine store_box (d := zd (x % y)) 0 rfl hr2 rfl (by kernel_rfl) ?_ ?_; exact Reads.fact (by repeat (first | exact List.Mem.head _ | apply List.Mem.tail))
      refine field_box 4 rfl hq ?_
      refine load_box_field_one (u := .bool (decide (y < 0))) 4 rfl (Part.left (Part.refl _)) ?_
      by_cases hy0 : y < 0
      · rw [if_pos hy0] at e1
        have ha2 := fun u u' => rAddZ u u' (Q : Int) 1 E sQ0 one hE
        rw [← e1] at ha2
        rw [decide_eq_true hy0]
        refine draw_rule [0, 1, 2, 3] [0, 1, 2, 3] (by kernel_rfl) (by kernel_rfl) ?_
        refine load_box (d := zd (Q : Int)) 1 rfl hq2 rfl (load_I _ _) fun y5 => ?_
        refine call_fn (rOf_meets 1 (by decide) (by decide)) (Seals.refl _ _) (by repeat (first | exact Sub.nil _ | refine Sub.cons (by repeat (first | exact List.Mem.head _ | apply List.Mem.tail)) ?_)) ?_
        rintro y6 _ _ ⟨rfl, rfl⟩
        refine call_fn (ha2 y5 y6) (Seals.refl _ _) (by repeat (first | exact Sub.nil _ | refine Sub.cons (by repeat (first | exact List.Mem.head _ | apply List.Mem.tail)) ?_)) ?_
        rintro y7 _ _ ⟨rfl, rfl⟩
        refine store_box (d := zd (x / y)) 1 rfl hq2 rfl (by kernel_rfl) ?_ ?_; exact Reads.fact (by repeat (first | exact List.Mem.head _ | apply List.Mem.tail))
        refine draw_ord [0, 2, 1, 3, 4] (by kernel_rfl) ?_
        refine ord_split 1 2 (by kernel_rfl) (by kernel_rfl) (by kernel_rfl) ?_ ?_
        · refine ord_go [0, 1, 2, 3, 4] (by kernel_rfl) (by kernel_rfl) ?_
          refine load_box (d := zd (x / y)) 1 rfl hq2 rfl (load_I _ _) fun t1 => ?_
          refine load_box (d := zd (x % y)) 0 rfl hr2 rfl (load_I _ _) fun t2 => ?_
          refine store_box (d := zd (x / y)) 3 rfl ho rfl (by kernel_rfl) ?_ ?_; exact Reads.fact (by repeat (first | exact List.Mem.head _ | apply List.Mem.tail))
          refine store_box (d := zd (x % y)) 2 rfl ho2 rfl (by kernel_rfl) ?_ ?_; exact Reads.fact (by repeat (first | exact List.Mem.head _ | apply List.Mem.tail))
          refine load_box (d := zd (x / y)) 3 rfl ho rfl (load_I _ _) fun r1 => ?_
          refine load_box (d := zd (x % y)) 2 rfl ho2 rfl (load_I _ _) fun r2' => ?_
          exact fin ⟨rfl, r1, r2', rfl, rfl⟩ (Seals.trans (Seals.drop 0 _ _) (Seals.trans (Seals.drop 0 _ _) (Seals.trans (Seals.drop 0 _ _) (Seals.trans (Seals.drop 0 _ _) (Seals.trans (Seals.drop 0 _ _) (Seals.trans (Seals.drop 0 _ _) (Seals.sub (fs' := [(r1, zd (x / y)), (r2', zd (x % y))]) (by repeat (first | exact Sub.nil _ | refine Sub.cons (by repeat (first | exact List.Mem.head _ | apply List.Mem.tail)) ?_)))))))))
        · refine ord_go [0, 2, 1, 3, 4] (by kernel_rfl) (by kernel_rfl) ?_
          refine load_box (d := zd (x / y)) 1 rfl hq2 rfl (load_I _ _) fun t1 => ?_
          refine store_box (d := zd (x / y)) 3 rfl ho rfl (by kernel_rfl) ?_ ?_; exact Reads.fact (by repeat (first | exact List.Mem.head _ | apply List.Mem.tail))
          refine load_box (d := zd (x % y)) 0 rfl hr2 rfl (load_I _ _) fun t2 => ?_
          refine store_box (d := zd (x % y)) 2 rfl ho2 rfl (by kernel_rfl) ?_ ?_; exact Reads.fact (by repeat (first | exact List.Mem.head _ | apply List.Mem.tail))
          refine load_box (d := zd (x / y)) 3 rfl ho rfl (load_I _ _) fun r1 => ?_
          refine load_box (d := zd (x % y)) 2 rfl ho2 rfl (load_I _ _) fun r2' => ?_
          exact fin ⟨rfl, r1, r2', rfl, rfl⟩ (Seals.trans (Seals.drop 0 _ _) (Seals.trans (Seals.drop 0 _ _) (Seals.trans (Seals.drop 0 _ _) (Seals.trans (Seals.drop 0 _ _) (Seals.trans (Seals.drop 0 _ _) (Seals.trans (Seals.drop 0 _ _) (Seals.sub (fs' := [(r1, zd (x / y)), (r2', zd (x % y))]) (by repeat (first | exact Sub.nil _ | refine Sub.cons (by repeat (first | exact List.Mem.head _ | apply List.Mem.tail)) ?_)))))))))
      · rw [if_neg hy0] at e1
        have ha2 := fun u u' => rSubZ u u' (Q : Int) 1 E sQ0 one hE
        rw [← e1] at ha2
        rw [decide_eq_false hy0]
        refine draw_rule [0, 1, 2, 3] [0, 1, 2, 3] (by kernel_rfl) (by kernel_rfl) ?_
        refine load_box (d := zd (Q : Int)) 1 rfl hq2 rfl (load_I _ _) fun y5 => ?_
        refine call_fn (rOf_meets 1 (by decide) (by decide)) (Seals.refl _ _) (by repeat (first | exact Sub.nil _ | refine Sub.cons (by repeat (first | exact List.Mem.head _ | apply List.Mem.tail)) ?_)) ?_
        rintro y6 _ _ ⟨rfl, rfl⟩
        refine call_fn (ha2 y5 y6) (Seals.refl _ _) (by repeat (first | exact Sub.nil _ | refine Sub.cons (by repeat (first | exact List.Mem.head _ | apply List.Mem.tail)) ?_)) ?_
        rintro y7 _ _ ⟨rfl, rfl⟩
        refine store_box (d := zd (x / y)) 1 rfl hq2 rfl (by kernel_rfl) ?_ ?_; exact Reads.fact (by repeat (first | exact List.Mem.head _ | apply List.Mem.tail))
        refine draw_ord [0, 2, 1, 3, 4] (by kernel_rfl) ?_
        refine ord_split 1 2 (by kernel_rfl) (by kernel_rfl) (by kernel_rfl) ?_ ?_
        · refine ord_go [0, 1, 2, 3, 4] (by kernel_rfl) (by kernel_rfl) ?_
          refine load_box (d := zd (x / y)) 1 rfl hq2 rfl (load_I _ _) fun t1 => ?_
          refine load_box (d := zd (x % y)) 0 rfl hr2 rfl (load_I _ _) fun t2 => ?_
          refine store_box (d := zd (x / y)) 3 rfl ho rfl (by kernel_rfl) ?_ ?_; exact Reads.fact (by repeat (first | exact List.Mem.head _ | apply List.Mem.tail))
          refine store_box (d := zd (x % y)) 2 rfl ho2 rfl (by kernel_rfl) ?_ ?_; exact Reads.fact (by repeat (first | exact List.Mem.head _ | apply List.Mem.tail))
          refine load_box (d := zd (x / y)) 3 rfl ho rfl (load_I _ _) fun r1 => ?_
          refine load_box (d := zd (x % y)) 2 rfl ho2 rfl (load_I _ _) fun r2' => ?_
          exact fin ⟨rfl, r1, r2', rfl, rfl⟩ (Seals.trans (Seals.drop 0 _ _) (Seals.trans (Seals.drop 0 _ _) (Seals.trans (Seals.drop 0 _ _) (Seals.trans (Seals.drop 0 _ _) (Seals.trans (Seals.drop 0 _ _) (Seals.trans (Seals.drop 0 _ _) (Seals.sub (fs' := [(r1, zd (x / y)), (r2', zd (x % y))]) (by repeat (first | exact Sub.nil _ | refine Sub.cons (by repeat (first | exact List.Mem.head _ | apply List.Mem.tail)) ?_)))))))))
        · refine ord_go [0, 2, 1, 3, 4] (by kernel_rfl) (by kernel_rfl) ?_
          refine load_box (d := zd (x / y)) 1 rfl hq2 rfl (load_I _ _) fun t1 => ?_
          refine store_box (d := zd (x / y)) 3 rfl ho rfl (by kernel_rfl) ?_ ?_; exact Reads.fact (by repeat (first | exact List.Mem.head _ | apply List.Mem.tail))
          refine load_box (d := zd (x % y)) 0 rfl hr2 rfl (load_I _ _) fun t2 => ?_
          refine store_box (d := zd (x % y)) 2 rfl ho2 rfl (by kernel_rfl) ?_ ?_; exact Reads.fact (by repeat (first | exact List.Mem.head _ | apply List.Mem.tail))
          refine load_box (d := zd (x / y)) 3 rfl ho rfl (load_I _ _) fun r1 => ?_
          refine load_box (d := zd (x % y)) 2 rfl ho2 rfl (load_I _ _) fun r2' => ?_
          exact fin ⟨rfl, r1, r2', rfl, rfl⟩ (Seals.trans (Seals.drop 0 _ _) (Seals.trans (Seals.drop 0 _ _) (Seals.trans (Seals.drop 0 _ _) (Seals.trans (Seals.drop 0 _ _) (Seals.trans (Seals.drop 0 _ _) (Seals.trans (Seals.drop 0 _ _) (Seals.sub (fs' := [(r1, zd (x / y)), (r2', zd (x % y))]) (by repeat (first | exact Sub.nil _ | refine Sub.cons (by repeat (first | exact List.Mem.head _ | apply List.Mem.tail)) ?_)))))))))
    · obtain ⟨e1, e2⟩ := hsg.2 hneg
      rw [decide_eq_false hneg]
      rw [← e1, ← e2]
      refine draw_ord [0, 2, 1, 3, 4] (by kernel_rfl) ?_
      refine ord_split 1 2 (by kernel_rfl) (by kernel_rfl) (by kernel_rfl) ?_ ?_
      · refine ord_go [0, 1, 2, 3, 4] (by kernel_rfl) (by kernel_rfl) ?_
        refine load_box (d := zd (x / y)) 1 rfl hq2 rfl (load_I _ _) fun t1 => ?_
        refine load_box (d := zd (x % y)) 0 rfl hr2 rfl (load_I _ _) fun t2 => ?_
        refine store_box (d := zd (x / y)) 3 rfl ho rfl (by kernel_rfl) ?_ ?_; exact Reads.fact (by repeat (first | exact List.Mem.head _ | apply List.Mem.tail))
        refine store_box (d := zd (x % y)) 2 rfl ho2 rfl (by kernel_rfl) ?_ ?_; exact Reads.fact (by repeat (first | exact List.Mem.head _ | apply List.Mem.tail))
        refine load_box (d := zd (x / y)) 3 rfl ho rfl (load_I _ _) fun r1 => ?_
        refine load_box (d := zd (x % y)) 2 rfl ho2 rfl (load_I _ _) fun r2' => ?_
        exact fin ⟨rfl, r1, r2', rfl, rfl⟩ (Seals.trans (Seals.drop 0 _ _) (Seals.trans (Seals.drop 0 _ _) (Seals.trans (Seals.drop 0 _ _) (Seals.trans (Seals.drop 0 _ _) (Seals.trans (Seals.drop 0 _ _) (Seals.trans (Seals.drop 0 _ _) (Seals.sub (fs' := [(r1, zd (x / y)), (r2', zd (x % y))]) (by repeat (first | exact Sub.nil _ | refine Sub.cons (by repeat (first | exact List.Mem.head _ | apply List.Mem.tail)) ?_)))))))))
      · refine ord_go [0, 2, 1, 3, 4] (by kernel_rfl) (by kernel_rfl) ?_
        refine load_box (d := zd (x / y)) 1 rfl hq2 rfl (load_I _ _) fun t1 => ?_
        refine store_box (d := zd (x / y)) 3 rfl ho rfl (by kernel_rfl) ?_ ?_; exact Reads.fact (by repeat (first | exact List.Mem.head _ | apply List.Mem.tail))
        refine load_box (d := zd (x % y)) 0 rfl hr2 rfl (load_I _ _) fun t2 => ?_
        refine store_box (d := zd (x % y)) 2 rfl ho2 rfl (by kernel_rfl) ?_ ?_; exact Reads.fact (by repeat (first | exact List.Mem.head _ | apply List.Mem.tail))
        refine load_box (d := zd (x / y)) 3 rfl ho rfl (load_I _ _) fun r1 => ?_
        refine load_box (d := zd (x % y)) 2 rfl ho2 rfl (load_I _ _) fun r2' => ?_
        exact fin ⟨rfl, r1, r2', rfl, rfl⟩ (Seals.trans (Seals.drop 0 _ _) (Seals.trans (Seals.drop 0 _ _) (Seals.trans (Seals.drop 0 _ _) (Seals.trans (Seals.drop 0 _ _) (Seals.trans (Seals.drop 0 _ _) (Seals.trans (Seals.drop 0 _ _) (Seals.sub (fs' := [(r1, zd (x / y)), (r2', zd (x % y))]) (by repeat (first | exact Sub.nil _ | refine Sub.cons (by repeat (first | exact List.Mem.head _ | apply List.Mem.tail)) ?_)))))))))
/-- Over numbers in normal form, and as they came. -/
theorem rDivModJZ (v w : Value) (x : Bool × List Nat) (y : Int) (e : Nat) (hx : Lim x.2) (lx : x.2.length ≤ 34359738368) (hy : sz y e) (he : e ≤ 34359738368) (h0 : y ≠ 0) :
    Meets Tryz.prog 35 [v, w] [(v, J x), (w, zd y)] (fun r os fs => os = [] ∧ ∃ q m, r = .tuple #[q, m, .bool true] ∧ fs = [(q, zd (jv x / y)), (m, zd (jv x % y))]) := by
  have h := rZDivMod_meets v w x.1 (decide (y < 0)) x.2 (lims y.natAbs) hx (Lim_lims _) lx (Nat.le_trans hy.len he) (by rw [iv_zd]; exact h0)
  rw [iv_zd] at h
  exact h
theorem rDivModZ (v w : Value) (x y : Int) (e : Nat) (hx : sz x e) (hy : sz y e) (he : e ≤ 34359738368) (h0 : y ≠ 0) :
    Meets Tryz.prog 35 [v, w] [(v, zd x), (w, zd y)] (fun r os fs => os = [] ∧ ∃ q m, r = .tuple #[q, m, .bool true] ∧ fs = [(q, zd (x / y)), (m, zd (x % y))]) := by
  have h := rDivModJZ v w (cn x) y e (Lim_lims _) (Nat.le_trans hx.len he) hy he h0
  rw [jv_cn] at h
  exact h
end Go.Proofs.YtdnjahdppgjmlaaGreat

namespace Go.Proofs.YtdnjahdppgjmlaaGreat
open Go.RowKit
theorem rGcdN_meets (va vb : Value) (a b : List Nat) (ha : Lim a) (hb : Lim b) (la : a.length ≤ 274877906944) (lb : b.length ≤ 274877906944) :
    Meets Tryz.prog 55 [va, vb] [(va, U a), (vb, U b)] (fun r os fs => os = [] ∧ fs = [(r, U (lims (Nat.gcd (nv a) (nv b))))]) := by
  refine meets_of_vc Tryz.func55 (by kernel_rfl) rfl (by kernel_rfl) (Nat.le_of_ble_eq_true rfl) ?_
  refine call_fn (rNorm_meets va a ha (by omega)) (Seals.refl _ _) (by repeat (first | exact Sub.nil _ | refine Sub.cons (by repeat (first | exact List.Mem.head _ | apply List.Mem.tail)) ?_)) ?_
  rintro x _ _ ⟨rfl, rfl⟩
  refine call_fn (rNorm_meets vb b hb (by omega)) (Seals.refl _ _) (by repeat (first | exact Sub.nil _ | refine Sub.cons (by repeat (first | exact List.Mem.head _ | apply List.Mem.tail)) ?_)) ?_
  rintro y _ _ ⟨rfl, rfl⟩
  have hal := lims_length_le (nv_lt ha)
  have hbl := lims_length_le (nv_lt hb)
  refine loop_rule (X := (Value × Nat) × (Value × Nat)) (fun x => ([(0, x.1.1), (1, x.2.1)], [], [(x.1.1, U (lims x.1.2)), (x.2.1, U (lims x.2.2))]))
    (fun x => (lims x.1.2).length ≤ 274877906944 ∧ (lims x.2.2).length ≤ 274877906944 ∧ Nat.gcd x.1.2 x.2.2 = Nat.gcd (nv a) (nv b)) (fun x => x.2.2) rfl ?_ ?_
  · exact again ((x, nv a), (y, nv b)) ⟨by simp only; omega, by simp only; omega, rfl⟩ trivial (by repeat (first | exact trivial | refine ⟨rfl, ?_⟩ | refine ⟨i64_eq (by first | omega | (simp only; omega)), ?_⟩ | refine ⟨u64_eq (by first | omega | (simp only; omega)), ?_⟩)) (Seals.sub (by repeat (first | exact Sub.nil _ | refine Sub.cons (by repeat (first | exact List.Mem.head _ | apply List.Mem.tail)) ?_)))
  · rintro ⟨⟨x, n⟩, ⟨y, d⟩⟩ ⟨h1, h2, h3⟩
    simp only at h1 h2 h3 ⊢
    refine len_fact (by repeat (first | exact List.Mem.head _ | apply List.Mem.tail)) fun _ => ?_
    refine cmp_split _ rfl (fun hc => ?_) (fun hc => ?_)
    · have hd : d ≠ 0 := fun e => by rw [e, lims_zero] at hc; simp at hc
      refine call_fn (rDivMod_meets x y (lims n) (lims d) (Lim_lims _) (Lim_lims _) h1 h2 (by rwa [nv_lims])) (Seals.refl _ _) (by repeat (first | exact Sub.nil _ | refine Sub.cons (by repeat (first | exact List.Mem.head _ | apply List.Mem.tail)) ?_)) ?_
      rintro _ _ _ ⟨rfl, q, r, rfl, rfl⟩
      have hm := Nat.mod_lt n (Nat.pos_of_ne_zero hd)
      refine again ((y, d), (r, n % d)) ⟨h2, ?_, ?_⟩ hm (by repeat (first | exact trivial | refine ⟨rfl, ?_⟩ | refine ⟨i64_eq (by first | omega | (simp only; omega)), ?_⟩ | refine ⟨u64_eq (by first | omega | (simp only; omega)), ?_⟩)) (Seals.cons (Knw.fact (by repeat (first | exact List.Mem.head _ | apply List.Mem.tail))) (Seals.cons ((Knw.fact (by repeat (first | exact List.Mem.head _ | apply List.Mem.tail))).cast ?_) (Seals.nil _ _)))
      · have hb := lims_length_le (Nat.lt_trans hm (by have := nv_lt (Lim_lims d); rwa [nv_lims] at this))
        simp only; omega
      · simp only; rw [Nat.gcd_comm, ← Nat.gcd_rec, Nat.gcd_comm]; exact h3
      · rw [nv_lims, nv_lims]
    · have hd : d = 0 := by
        have : (lims d).length = 0 := by omega
        exact lims_eq_nil.1 (List.eq_nil_of_length_eq_zero this)
      subst hd
      refine fin ⟨rfl, rfl⟩ (Seals.cons ((Knw.fact (by repeat (first | exact List.Mem.head _ | apply List.Mem.tail))).cast ?_) (Seals.nil _ _))
      rw [← h3, Nat.gcd_zero_right]
theorem rGcdJ (v w : Value) (x y : Bool × List Nat) (hx : Lim x.2) (lx : x.2.length ≤ 137438953472) (hy : Lim y.2) (ly : y.2.length ≤ 137438953472) :
    Meets Tryz.prog 27 [v, w] [(v, J x), (w, J y)] (fun r os fs => os = [] ∧ fs = [(r, zd (Nat.gcd (jv x).natAbs (jv y).natAbs : Nat))]) := by
  rw [jv_abs, jv_abs]
  obtain ⟨s, a⟩ := x
  obtain ⟨t, b⟩ := y
  simp only at hx lx hy ly ⊢
  have hg := fun u u' => rGcdN_meets u u' a b hx hy (by omega) (by omega)
  have hl : (lims (Nat.gcd (nv a) (nv b))).length ≤ 1099511627776 := by
    by_cases h0 : nv a = 0
    · rw [h0, Nat.gcd_zero_left]
      exact Nat.le_trans (lims_length_le (nv_lt hy)) (by omega)
    · exact Nat.le_trans (lims_length_le (Nat.lt_of_le_of_lt (Nat.gcd_le_left _ (Nat.pos_of_ne_zero h0)) (nv_lt hx))) (by omega)
  have hm := fun u => rMake_meets u false (lims (Nat.gcd (nv a) (nv b))) (Lim_lims _) hl
  have e : iv false (lims (Nat.gcd (nv a) (nv b))) = (Nat.gcd (nv a) (nv b) : Nat) := by unfold iv; rw [nv_lims]; rfl
  rw [e] at hm
  generalize Nat.gcd (nv a) (nv b) = g at *
  refine meets_of_vc Tryz.func27 (by kernel_rfl) rfl (by kernel_rfl) (Nat.le_of_ble_eq_true rfl) ?_
  refine box_rule (Reads.fact (d := I s a) (by repeat (first | exact List.Mem.head _ | apply List.Mem.tail))) fun p hp => ?_
  refine box_rule (Reads.fact (d := I t b) (by repeat (first | exact List.Mem.head _ | apply List.Mem.tail))) fun q hq => ?_
  refine alloc_rule (d := I false []) fun o ho => ?_
  refine field_box 2 rfl hp ?_
  refine load_box_field 2 rfl (Part.right (Part.refl _)) (load_L _) fun u1 => ?_
  refine field_box 1 rfl hq ?_
  refine load_box_field 1 rfl (Part.right (Part.refl _)) (load_L _) fun u2 => ?_
  refine call_fn (hg u1 u2) (Seals.refl _ _) (by repeat (first | exact Sub.nil _ | refine Sub.cons (by repeat (first | exact List.Mem.head _ | apply List.Mem.tail)) ?_)) ?_
  rintro u3 _ _ ⟨rfl, rfl⟩
  refine call_fn (hm u3) (Seals.refl _ _) (by repeat (first | exact Sub.nil _ | refine Sub.cons (by repeat (first | exact List.Mem.head _ | apply List.Mem.tail)) ?_)) ?_
  rintro r0 _ _ ⟨rfl, rfl⟩
  refine store_box (d := zd (g : Nat)) 0 rfl ho rfl (by kernel_rfl) ?_ ?_; exact Reads.fact (by repeat (first | exact List.Mem.head _ | apply List.Mem.tail))
  refine load_box (d := zd (g : Nat)) 0 rfl ho rfl (load_I _ _) fun r => ?_
  exact fin ⟨rfl, rfl⟩ (Seals.trans (Seals.drop 0 _ _) (Seals.trans (Seals.drop 0 _ _) (Seals.trans (Seals.drop 0 _ _) (Seals.sub (by repeat (first | exact Sub.nil _ | refine Sub.cons (by repeat (first | exact List.Mem.head _ | apply List.Mem.tail)) ?_))))))
theorem rGcdZ (v w : Value) (x y : Int) (a b : Nat) (hx : sz x a) (hy : sz y b) (ha : a ≤ 137438953472) (hb : b ≤ 137438953472) :
    Meets Tryz.prog 27 [v, w] [(v, zd x), (w, zd y)] (fun r os fs => os = [] ∧ fs = [(r, zd (Nat.gcd x.natAbs y.natAbs : Nat))]) := by
  have h := rGcdJ v w (cn x) (cn y) (Lim_lims _) (Nat.le_trans hx.len ha) (Lim_lims _) (Nat.le_trans hy.len hb)
  rw [jv_cn, jv_cn] at h
  exact h
theorem rAbsZ (v : Value) (x : Int) (a : Nat) (hx : sz x a) (ha : a ≤ 137438953472) :
    Meets Tryz.prog 28 [v] [(v, zd x)] (fun r os fs => os = [] ∧ fs = [(r, zd (x.natAbs : Nat))]) := by
  have h := rAbs_meets v (decide (x < 0)) (lims x.natAbs) (Lim_lims _) (Nat.le_trans hx.len (by omega))
  rw [iv_zd] at h
  exact h
end Go.Proofs.YtdnjahdppgjmlaaGreat

namespace Go.Proofs.YtdnjahdppgjmlaaGreat
open Go.RowKit
theorem rDegreeN (v : Value) (p : Row) (hp : Fit 1099511627776 p) :
    Meets Tryz.prog 26 [v] [(v, V p)] (fun r os fs => os = [] ∧ fs = [] ∧ r = .int .i64 ((dg (vv p) : Nat) - 1 : Int)) := by
  have := rDegree_meets v p hp
  rw [deg_dg] at this; exact this
theorem rMulZZ' (v w : Value) (x y : Int) (e : Nat) (hx : sz x e) (hy : sz y e) (he : e ≤ 137438953472) :
    Meets Tryz.prog 66 [v, w] [(v, zd x), (w, zd y)] (fun r os fs => os = [] ∧ fs = [(r, zd (x * y))]) := by
  have h := rMulZJ v w x (cn y) e hx he (Lim_lims _) (Nat.le_trans hy.len he)
  rw [jv_cn] at h
  exact h
theorem conv_none {a b : List Int} {y : Nat} : ∀ {i : Nat}, (∀ t, t < i → t ≤ y → b.length ≤ y - t) → conv a b i y = 0
  | 0, _ => rfl
  | i + 1, h => by
    rw [conv_succ, conv_none fun t ht hy => h t (by omega) hy]
    split
    · rw [getD_none (h i (by omega) (by omega))]; simp
    · rfl
theorem conv_more {a b : List Int} {y i : Nat} : ∀ (d : Nat), (y < i ∨ a.length ≤ i) → conv a b (i + d) y = conv a b i y
  | 0, _ => rfl
  | d + 1, h => by
    rw [← Nat.add_assoc, conv_succ, conv_more d h]
    split
    · rcases h with h | h
      · omega
      · rw [getD_none (l := a) (by omega)]; simp
    · simp
theorem rPMul_meets (v w : Value) (p q : Row) (k j : Nat) (hp : Fit k p) (hq : Fit j q) (hk : k + j + 1 ≤ 137438953472) (lp : p.length ≤ 268435456) (lq : q.length ≤ 268435456) :
    Meets Tryz.prog 93 [v, w] [(v, V p), (w, V q)] (fun r os fs => os = [] ∧ fs = [(r, vd (pmul (vv p) (vv q)))]) := by
  have d1 := rDegreeN v p (hp.mono (by omega))
  have d2 := rDegreeN w q (hq.mono (by omega))
  have a1 := rAtN v p (hp.mono (by omega))
  have a2 := rAtN w q (hq.mono (by omega))
  have sa := hp.szR.nrm
  have sb := hq.szR.nrm
  have la : (nrm (vv p)).length ≤ p.length := Nat.le_trans (nrm_length_le _) (by rw [vv_len]; exact Nat.le_refl _)
  have lb : (nrm (vv q)).length ≤ q.length := Nat.le_trans (nrm_length_le _) (by rw [vv_len]; exact Nat.le_refl _)
  have e1 : ∀ i, (vv p).getD i 0 = (nrm (vv p)).getD i 0 := fun i => (co_nrm _ _).symm
  have e2 : ∀ i, (vv q).getD i 0 = (nrm (vv q)).getD i 0 := fun i => (co_nrm _ _).symm
  have hdef : pmul (vv p) (vv q) = if nrm (vv p) = [] ∨ nrm (vv q) = [] then [] else nrm (lst ((nrm (vv p)).length + (nrm (vv q)).length - 1) fun y => conv (nrm (vv p)) (nrm (vv q)) (nrm (vv p)).length y) := rfl
  have hdg1 : dg (vv p) = (nrm (vv p)).length := rfl
  have hdg2 : dg (vv q) = (nrm (vv q)).length := rfl
  rw [hdef]
  simp only [e1] at a1
  simp only [e2] at a2
  rw [hdg1] at d1
  rw [hdg2] at d2
  generalize nrm (vv p) = a at *
  generalize nrm (vv q) = b at *
  have hcs : ∀ m y, m ≤ a.length → sz (conv a b m y) (k + j + 1) := fun m y hm => conv_sz sa sb (by omega) y
  have hn := fun u n => rNormT u (lst n fun y => conv a b a.length y) ((szR.lst fun i _ => hcs _ _ (Nat.le_refl _)).mono hk)
  have hpr : ∀ i t, sz (a.getD i 0 * b.getD t 0) (k + j + 1) := fun i t => ((sa.get i).mul (sb.get t)).mono (by omega)
  refine meets_of_vc Tryz.func93 (by kernel_rfl) rfl (by kernel_rfl) (Nat.le_of_ble_eq_true rfl) ?_
  refine empty_L (size := 2) (e := 30) J z0 (by decide) fun v0 hv0 => ?_
  refine call_fn d1 (Seals.refl _ _) (by repeat (first | exact Sub.nil _ | refine Sub.cons (by repeat (first | exact List.Mem.head _ | apply List.Mem.tail)) ?_)) ?_
  rintro _ _ _ ⟨rfl, rfl, rfl⟩
  refine call_fn d2 (Seals.refl _ _) (by repeat (first | exact Sub.nil _ | refine Sub.cons (by repeat (first | exact List.Mem.head _ | apply List.Mem.tail)) ?_)) ?_
  rintro _ _ _ ⟨rfl, rfl, rfl⟩
  generalize hg : (fun y => conv a b a.length y) = g at *
  have hgi : ∀ y, conv a b a.length y = g y := fun y => by rw [← hg]
  refine loop_rule (X := Nat × Value) (fun x => ([(0, v), (1, w), (5, x.2), (6, .int .i64 ((a.length : Nat) - 1 : Int)), (7, .int .i64 ((b.length : Nat) - 1 : Int)), (8, .int .i64 (x.1 : Nat))], [ownL 2 J z0 x.2 ((lst x.1 g).map cn)], [(v, V p), (w, V q)]))
    (fun x => isSl x.2 ∧ (a.length = 0 ∨ b.length = 0 → x.1 = 0) ∧ x.1 ≤ a.length + b.length - 1) (fun x => a.length + b.length - x.1) rfl ?_ ?_
  · exact again (0, v0) ⟨hv0, fun _ => rfl, Nat.zero_le _⟩ trivial (by repeat (first | exact trivial | refine ⟨rfl, ?_⟩ | refine ⟨i64_eq (by first | omega | (simp only; omega)), ?_⟩ | refine ⟨u64_eq (by first | omega | (simp only; omega)), ?_⟩)) (Seals.sub (by repeat (first | exact Sub.nil _ | refine Sub.cons (by repeat (first | exact List.Mem.head _ | apply List.Mem.tail)) ?_)))
  · rintro ⟨y, vo⟩ ⟨hvo, hz, hy1⟩
    simp only at hvo hz hy1 ⊢
    have hll : (lst y g).length = y := lst_len _ _
    refine cmp_split _ rfl (fun h1 => ?_) (fun h1 => ?_)
    · refine cmp_split _ rfl (fun h2 => ?_) (fun h2 => ?_)
      · have hA : 0 < a.length := by omega
        have hB : 0 < b.length := by omega
        refine ar rfl (by first | exact ⟨by omega, by omega⟩ | (simp only [inK]; omega)) ?_
        refine cmp_split _ rfl (fun h3 => ?_) (fun h3 => ?_)
        · have hy : y + 2 ≤ a.length + b.length := by omega
          refine build0 (da := .one (.bool false)) (db := U (lims 0)) (fun S w => ⟨[.bool false], [.slice none 0 0], rfl, rd_false S w, by rw [lims_zero]; exact rd_nil S w 1 _⟩) fun z => ?_
          refine alloc_rule (d := I false []) fun c hc => ?_
          refine store_box (d := zd 0) 0 rfl hc rfl (by kernel_rfl) ?_ ?_; exact Reads.fact (by repeat (first | exact List.Mem.head _ | apply List.Mem.tail))
          refine ar rfl (by first | exact ⟨by omega, by omega⟩ | (simp only [inK]; omega)) ?_
          refine max2_rule ?_
          have h00 : conv a b (y + 1 - b.length) y = 0 := conv_none fun t ht hty => by omega
          refine loop_rule (X := Nat) (fun i => ([(0, v), (1, w), (5, vo), (6, .int .i64 ((a.length : Nat) - 1 : Int)), (7, .int .i64 ((b.length : Nat) - 1 : Int)), (8, .int .i64 (y : Nat)), (9, c), (10, .int .i64 (i : Nat))], [own1 c 2 1 (fun _ => zd (conv a b i y)), ownL 2 J z0 vo ((lst y g).map cn)], [(v, V p), (w, V q)]))
            (fun i => i ≤ a.length ∧ i ≤ y + 1) (fun i => a.length - i) rfl ?_ ?_
          · exact again (y + 1 - b.length) ⟨by omega, by omega⟩ trivial ⟨rfl, rfl, rfl, rfl, rfl, rfl, rfl, i64_eq (by omega), trivial⟩ (Seals.trans (Seals.box0 (by rw [h00]; rfl)) (Seals.sub (by repeat (first | exact Sub.nil _ | refine Sub.cons (by repeat (first | exact List.Mem.head _ | apply List.Mem.tail)) ?_))))
          · rintro i ⟨hi1, hi2⟩
            simp only at hi1 hi2 ⊢
            refine min2_rule ?_
            refine cmp_split _ rfl (fun h4 => ?_) (fun h4 => ?_)
            · have hia : i < a.length := by omega
              have hiy : i ≤ y := by omega
              have hat := a2 (y - i)
              rw [show ((y - i : Nat) : Int) = (y : Int) - (i : Int) by omega] at hat
              have hsum : conv a b i y + a.getD i 0 * b.getD (y - i) 0 = conv a b (i + 1) y := by rw [conv_succ, if_pos hiy]
              have hadd := fun u u' => rAddZ u u' _ _ (k + j + 1) (hcs i y (by omega)) (hpr i (y - i)) hk
              rw [hsum] at hadd
              refine draw_rule [0, 1, 2, 4, 5, 6, 7, 3, 8, 9, 10, 11] [0, 1, 2, 3, 4, 5, 6, 7, 8, 9, 10, 11] (by kernel_rfl) (by kernel_rfl) ?_
              refine load_box (d := zd (conv a b i y)) 0 rfl hc rfl (load_I _ _) fun y1 => ?_
              refine ar rfl (by first | exact ⟨by omega, by omega⟩ | (simp only [inK]; omega)) ?_
              refine call_fn (a1 i) (Seals.refl _ _) (by repeat (first | exact Sub.nil _ | refine Sub.cons (by repeat (first | exact List.Mem.head _ | apply List.Mem.tail)) ?_)) ?_
              rintro y2 _ _ ⟨rfl, rfl⟩
              refine call_fn hat (Seals.refl _ _) (by repeat (first | exact Sub.nil _ | refine Sub.cons (by repeat (first | exact List.Mem.head _ | apply List.Mem.tail)) ?_)) ?_
              rintro y3 _ _ ⟨rfl, rfl⟩
              refine call_fn (rMulZZ' y2 y3 _ _ (k + j + 1) ((sa.get i).mono (by omega)) ((sb.get (y - i)).mono (by omega)) hk) (Seals.refl _ _) (by repeat (first | exact Sub.nil _ | refine Sub.cons (by repeat (first | exact List.Mem.head _ | apply List.Mem.tail)) ?_)) ?_
              rintro y4 _ _ ⟨rfl, rfl⟩
              refine call_fn (hadd y1 y4) (Seals.refl _ _) (by repeat (first | exact Sub.nil _ | refine Sub.cons (by repeat (first | exact List.Mem.head _ | apply List.Mem.tail)) ?_)) ?_
              rintro y5 _ _ ⟨rfl, rfl⟩
              refine store_box (d := zd (conv a b (i + 1) y)) 0 rfl hc rfl (by kernel_rfl) ?_ ?_; exact Reads.fact (by repeat (first | exact List.Mem.head _ | apply List.Mem.tail))
              refine ar rfl (by first | exact ⟨by omega, by omega⟩ | (simp only [inK]; omega)) ?_
              exact again (i + 1) ⟨by omega, by omega⟩ (by simp only; omega) (by repeat (first | exact trivial | refine ⟨rfl, ?_⟩ | refine ⟨i64_eq (by first | omega | (simp only; omega)), ?_⟩ | refine ⟨u64_eq (by first | omega | (simp only; omega)), ?_⟩)) (Seals.trans (Seals.box0 rfl) (Seals.sub (by repeat (first | exact Sub.nil _ | refine Sub.cons (by repeat (first | exact List.Mem.head _ | apply List.Mem.tail)) ?_))))
            · have hfin : conv a b i y = g y := by
                rw [← hgi]
                obtain ⟨d, hd⟩ : ∃ d, a.length = i + d := ⟨a.length - i, by omega⟩
                rw [hd]
                exact (conv_more d (by omega)).symm
              rw [hfin]
              refine load_box (d := zd (g y)) 0 rfl hc rfl (load_I _ _) fun y6 => ?_
              refine lit_L (size := 2) (f := J) (z := z0) (e := 30) (cn (g y)) (by decide) (Reads.fact (by repeat (first | exact List.Mem.head _ | apply List.Mem.tail))) rfl fun y7 => ?_
              refine append_L (size := 2) (e := 30) (f := J) (z := z0) (l := (lst y g).map cn) (m := [cn (g y)]) 1 rfl hvo (Knw.fact (by repeat (first | exact List.Mem.head _ | apply List.Mem.tail))) (by simp only [List.length_map, hll, List.length_cons, List.length_nil]; omega) (by simp only [List.length_map, hll, List.length_cons, List.length_nil]; omega) fun vn hvn => ?_
              refine ar rfl (by first | exact ⟨by omega, by omega⟩ | (simp only [inK]; omega)) ?_
              refine again (y + 1, vn) ⟨hvn, fun h => by omega, by simp only; omega⟩ (by simp only; omega) (by repeat (first | exact trivial | refine ⟨rfl, ?_⟩ | refine ⟨i64_eq (by first | omega | (simp only; omega)), ?_⟩ | refine ⟨u64_eq (by first | omega | (simp only; omega)), ?_⟩)) ?_
              rw [show (lst y g).map cn ++ [cn (g y)] = (lst (y + 1) g).map cn by rw [lst_snoc, List.map_append]; rfl]
              exact Seals.trans (Seals.drop 0 _ _) (Seals.sub (by repeat (first | exact Sub.nil _ | refine Sub.cons (by repeat (first | exact List.Mem.head _ | apply List.Mem.tail)) ?_)))
        · by_cases hy0 : y = a.length + b.length - 1
          · have hne : ¬ (a = [] ∨ b = []) := fun h => h.elim (fun e => by rw [e] at hA; simp at hA) fun e => by rw [e] at hB; simp at hB
            rw [if_neg hne, ← hy0]
            refine call_fn (hn vo y (by rw [lst_len]; omega)) (Seals.toldL hvo) (by repeat (first | exact Sub.nil _ | refine Sub.cons (by repeat (first | exact List.Mem.head _ | apply List.Mem.tail)) ?_)) ?_
            rintro r _ _ ⟨rfl, rfl⟩
            exact fin ⟨rfl, rfl⟩ (Seals.sub (by repeat (first | exact Sub.nil _ | refine Sub.cons (by repeat (first | exact List.Mem.head _ | apply List.Mem.tail)) ?_)))
          · omega
      · have hB : b = [] := List.eq_nil_of_length_eq_zero (by omega)
        have hy0 := hz (.inr (by rw [hB]; rfl))
        subst hy0
        rw [if_pos (.inr hB)]
        refine call_fn (hn vo 0 (by rw [lst_len]; omega)) (Seals.toldL hvo) (by repeat (first | exact Sub.nil _ | refine Sub.cons (by repeat (first | exact List.Mem.head _ | apply List.Mem.tail)) ?_)) ?_
        rintro r _ _ ⟨rfl, rfl⟩
        exact fin ⟨rfl, rfl⟩ (Seals.sub (by repeat (first | exact Sub.nil _ | refine Sub.cons (by repeat (first | exact List.Mem.head _ | apply List.Mem.tail)) ?_)))
    · have hA : a = [] := List.eq_nil_of_length_eq_zero (by omega)
      have hy0 := hz (.inl (by rw [hA]; rfl))
      subst hy0
      rw [if_pos (.inl hA)]
      refine call_fn (hn vo 0 (by rw [lst_len]; omega)) (Seals.toldL hvo) (by repeat (first | exact Sub.nil _ | refine Sub.cons (by repeat (first | exact List.Mem.head _ | apply List.Mem.tail)) ?_)) ?_
      rintro r _ _ ⟨rfl, rfl⟩
      exact fin ⟨rfl, rfl⟩ (Seals.sub (by repeat (first | exact Sub.nil _ | refine Sub.cons (by repeat (first | exact List.Mem.head _ | apply List.Mem.tail)) ?_)))
end Go.Proofs.YtdnjahdppgjmlaaGreat

namespace Go.Proofs.YtdnjahdppgjmlaaGreat
open Go.RowKit
theorem rPower_meets (v : Value) (x : Int) (n a : Nat) (hx : sz x a) (hk : (n + 1) * (a + 1) ≤ 137438953472) :
    Meets Tryz.prog 89 [v, .int .i64 (n : Nat)] [(v, zd x)] (fun r os fs => os = [] ∧ fs = [(r, zd (x ^ n))]) := by
  have hm1 : (n + 1) * (a + 1) = n * (a + 1) + (a + 1) := Nat.succ_mul _ _
  have hm2 : n ≤ n * (a + 1) := Nat.le_mul_of_pos_right _ (by omega)
  have hp : ∀ i, i ≤ n → sz (x ^ i) (n * (a + 1) + 1) := fun i hi => (sz_pow hx i).mono (by
    have h2 : i * a ≤ n * (a + 1) := Nat.mul_le_mul hi (by omega)
    omega)
  refine meets_of_vc Tryz.func89 (by kernel_rfl) rfl (by kernel_rfl) (Nat.le_of_ble_eq_true rfl) ?_
  refine box_fact (Reads.fact (d := zd x) (by repeat (first | exact List.Mem.head _ | apply List.Mem.tail))) fun px => ?_
  refine alloc_rule (d := I false []) fun o ho => ?_
  refine call_fn (rOf_meets 1 (by decide) (by decide)) (Seals.refl _ _) (by repeat (first | exact Sub.nil _ | refine Sub.cons (by repeat (first | exact List.Mem.head _ | apply List.Mem.tail)) ?_)) ?_
  rintro y0 _ _ ⟨rfl, rfl⟩
  refine alloc_rule (d := I false []) fun s hs => ?_
  refine store_box (d := zd 1) 0 rfl hs rfl (by kernel_rfl) ?_ ?_; exact Reads.fact (by repeat (first | exact List.Mem.head _ | apply List.Mem.tail))
  refine loop_rule (X := Nat) (fun i => ([(1, .int .i64 (n : Nat)), (2, px), (4, o), (5, s), (6, .int .i64 (i : Nat))], [own1 s 2 1 (fun _ => zd (x ^ i)), own1 o 2 1 (fun _ => I false [])], [(px, .ptr (zd x))])) (fun i => i ≤ n) (fun i => n - i) rfl ?_ ?_
  · exact again 0 (Nat.zero_le _) trivial (by repeat (first | exact trivial | refine ⟨rfl, ?_⟩ | refine ⟨i64_eq (by first | omega | (simp only; omega)), ?_⟩ | refine ⟨u64_eq (by first | omega | (simp only; omega)), ?_⟩)) (Seals.trans (Seals.box0 (by rw [Int.pow_zero]; rfl)) (Seals.sub (by repeat (first | exact Sub.nil _ | refine Sub.cons (by repeat (first | exact List.Mem.head _ | apply List.Mem.tail)) ?_))))
  · rintro i hi
    refine cmp_split _ rfl (fun hlt => ?_) (fun hlt => ?_)
    · have hnx := fun u u' => rMulZZ' u u' (x ^ i) x (n * (a + 1) + (a + 1)) ((hp i hi).mono (by omega)) (hx.mono (by omega)) (by omega)
      rw [← Int.pow_succ] at hnx
      refine load_box (d := zd (x ^ i)) 0 rfl hs rfl (load_I _ _) fun y1 => ?_
      refine load_fact (d := zd x) (by repeat (first | exact List.Mem.head _ | apply List.Mem.tail)) (load_I _ _) fun y2 => ?_
      refine call_fn (hnx y1 y2) (Seals.refl _ _) (by repeat (first | exact Sub.nil _ | refine Sub.cons (by repeat (first | exact List.Mem.head _ | apply List.Mem.tail)) ?_)) ?_
      rintro y3 _ _ ⟨rfl, rfl⟩
      refine store_box (d := zd (x ^ (i + 1))) 0 rfl hs rfl (by kernel_rfl) ?_ ?_; exact Reads.fact (by repeat (first | exact List.Mem.head _ | apply List.Mem.tail))
      refine ar rfl (by first | exact ⟨by omega, by omega⟩ | (simp only [inK]; omega)) ?_
      exact again (i + 1) (by omega) (by simp only; omega) (by repeat (first | exact trivial | refine ⟨rfl, ?_⟩ | refine ⟨i64_eq (by first | omega | (simp only; omega)), ?_⟩ | refine ⟨u64_eq (by first | omega | (simp only; omega)), ?_⟩)) (Seals.trans (Seals.box0 rfl) (Seals.sub (by repeat (first | exact Sub.nil _ | refine Sub.cons (by repeat (first | exact List.Mem.head _ | apply List.Mem.tail)) ?_))))
    · have hin : i = n := by omega
      subst hin
      refine load_box (d := zd (x ^ i)) 0 rfl hs rfl (load_I _ _) fun y1 => ?_
      refine store_box (d := zd (x ^ i)) 1 rfl ho rfl (by kernel_rfl) ?_ ?_; exact Reads.fact (by repeat (first | exact List.Mem.head _ | apply List.Mem.tail))
      refine load_box (d := zd (x ^ i)) 1 rfl ho rfl (load_I _ _) fun r => ?_
      exact fin ⟨rfl, rfl⟩ (Seals.trans (Seals.drop 0 _ _) (Seals.trans (Seals.drop 0 _ _) (Seals.sub (fs' := [(r, zd (x ^ i))]) (by repeat (first | exact Sub.nil _ | refine Sub.cons (by repeat (first | exact List.Mem.head _ | apply List.Mem.tail)) ?_)))))
end Go.Proofs.YtdnjahdppgjmlaaGreat

namespace Go.Proofs.YtdnjahdppgjmlaaGreat
open Go.RowKit
theorem pmul_szR {k j : Nat} {l m : List Int} (h : szR k l) (h' : szR j m) (hl : l.length < 18446744073709551616) : szR (k + j + 1) (pmul l m) := by
  have hn : (nrm l).length ≤ l.length := nrm_length_le l
  unfold pmul
  simp only
  split
  · exact fun x hx => by simp at hx
  · exact szR.nrm (szR.lst fun i _ => conv_sz h.nrm h'.nrm (by omega) i)
theorem ptim_len (c : Int) (l : List Int) : (ptim c l).length ≤ l.length := by
  have := prai_len c 0 l
  rw [prai_zero] at this; omega
theorem ptim_szR {k a : Nat} {c : Int} {l : List Int} (h : szR k l) (hc : sz c a) : szR (k + a) (ptim c l) := by
  have := h.prai hc 0
  rwa [prai_zero] at this
theorem rDerive_meets (v : Value) (p : Row) (k : Nat) (hp : Fit k p) (hk : k + 1 ≤ 137438953472) (lp : p.length ≤ 536870912) :
    Meets Tryz.prog 44 [v] [(v, V p)] (fun r os fs => os = [] ∧ fs = [(r, vd (pder (vv p)))]) := by
  have d1 := rDegreeN v p (hp.mono (by omega))
  have hdl : dg (vv p) ≤ p.length := Nat.le_trans (dg_le_len _) (by rw [vv_len]; exact Nat.le_refl _)
  have hgi : ∀ i, i + 1 < p.length → ((i + 1 : Nat) : Int) * jv (p.getD (i + 1) z0) = (fun i => ((i + 1 : Nat) : Int) * (vv p).getD (i + 1) 0) i := fun i hi => by simp only; rw [vv_get p (i + 1) hi]
  have hsz : szR (k + 1) (lst (dg (vv p) - 1) fun i => ((i + 1 : Nat) : Int) * (vv p).getD (i + 1) 0) := szR.lst fun i hi => by
    have := (sz_nat (i := i + 1) (by omega)).mul (hp.szR.get (i + 1))
    rw [Nat.add_comm 1 k] at this; exact this
  have hn := fun u => rNormT u (lst (dg (vv p) - 1) fun i => ((i + 1 : Nat) : Int) * (vv p).getD (i + 1) 0) (hsz.mono hk) (by rw [lst_len]; omega)
  have hdef : pder (vv p) = nrm (lst (dg (vv p) - 1) fun i => ((i + 1 : Nat) : Int) * (vv p).getD (i + 1) 0) := by
    unfold pder
    refine nrm_ext fun i => ?_
    rw [lst_get', lst_get']
    by_cases h1 : i < dg (vv p) - 1
    · rw [if_pos h1, if_pos (by rw [vv_len]; omega)]
    · rw [if_neg h1]
      split
      · rw [dg_le.1 (Nat.le_refl (dg (vv p))) (i + 1) (by omega)]; simp
      · rfl
  rw [hdef]
  generalize hg : (fun i => ((i + 1 : Nat) : Int) * (vv p).getD (i + 1) 0) = g at *
  generalize dg (vv p) = n at *
  refine meets_of_vc Tryz.func44 (by kernel_rfl) rfl (by kernel_rfl) (Nat.le_of_ble_eq_true rfl) ?_
  refine empty_L (size := 2) (e := 30) J z0 (by decide) fun v0 hv0 => ?_
  refine loop_rule (X := Value × Nat) (fun x => ([(0, v), (3, x.1), (4, .int .i64 ((x.2 + 1 : Nat) : Int))], [ownL 2 J z0 x.1 ((lst x.2 g).map cn)], [(v, V p)])) (fun x => isSl x.1 ∧ x.2 ≤ n - 1) (fun x => n - x.2) rfl ?_ ?_
  · exact again (v0, 0) ⟨hv0, Nat.zero_le _⟩ trivial (by repeat (first | exact trivial | refine ⟨rfl, ?_⟩ | refine ⟨i64_eq (by first | omega | (simp only; omega)), ?_⟩ | refine ⟨u64_eq (by first | omega | (simp only; omega)), ?_⟩)) (Seals.sub (by repeat (first | exact Sub.nil _ | refine Sub.cons (by repeat (first | exact List.Mem.head _ | apply List.Mem.tail)) ?_)))
  · rintro ⟨vo, i⟩ ⟨hvo, h2⟩
    simp only at hvo h2 ⊢
    refine call_fn (d1) (Seals.refl _ _) (by repeat (first | exact Sub.nil _ | refine Sub.cons (by repeat (first | exact List.Mem.head _ | apply List.Mem.tail)) ?_)) ?_
    rintro _ _ _ ⟨rfl, rfl, rfl⟩
    refine cmp_split _ rfl (fun hlt => ?_) (fun hlt => ?_)
    · have hin : i + 1 < p.length := by omega
      have hll : (lst i g).length = i := lst_len _ _
      have hpi := hp.get (i + 1)
      have hmul := fun u u' => rMulZJ u u' ((i + 1 : Nat) : Int) (p.getD (i + 1) z0) 1 (sz_nat (by omega)) (by decide) hpi.1 (by omega)
      rw [hgi i hin] at hmul
      refine draw_rule [0, 1, 3, 4, 5, 6, 2, 7, 8, 9, 10] [0, 1, 2, 3, 4, 5, 6, 7, 8, 9, 10] (by kernel_rfl) (by kernel_rfl) ?_
      refine index_fact (by repeat (first | exact List.Mem.head _ | apply List.Mem.tail)) (i + 1) rfl hin fun b1 => ?_
      refine load_fact (d := J (p.getD (i + 1) z0)) (by repeat (first | exact List.Mem.head _ | apply List.Mem.tail)) (load_J _) fun y2 => ?_
      refine call_fn (rOf_meets ((i + 1 : Nat) : Int) (by omega) (by omega)) (Seals.refl _ _) (by repeat (first | exact Sub.nil _ | refine Sub.cons (by repeat (first | exact List.Mem.head _ | apply List.Mem.tail)) ?_)) ?_
      rintro y1 _ _ ⟨rfl, rfl⟩
      refine call_fn (hmul y1 y2) (Seals.refl _ _) (by repeat (first | exact Sub.nil _ | refine Sub.cons (by repeat (first | exact List.Mem.head _ | apply List.Mem.tail)) ?_)) ?_
      rintro y3 _ _ ⟨rfl, rfl⟩
      refine lit_L (size := 2) (f := J) (z := z0) (e := 30) (cn (g i)) (by decide) (Reads.fact (by repeat (first | exact List.Mem.head _ | apply List.Mem.tail))) rfl fun y4 => ?_
      refine append_L (size := 2) (e := 30) (f := J) (z := z0) (l := (lst i g).map cn) (m := [cn (g i)]) 0 rfl hvo (Knw.fact (by repeat (first | exact List.Mem.head _ | apply List.Mem.tail))) (by simp only [List.length_map, hll, List.length_cons, List.length_nil]; omega) (by simp only [List.length_map, hll, List.length_cons, List.length_nil]; omega) fun vn hvn => ?_
      refine ar rfl (by first | exact ⟨by omega, by omega⟩ | (simp only [inK]; omega)) ?_
      refine again (vn, i + 1) ⟨hvn, by simp only; omega⟩ (by simp only; omega) (by repeat (first | exact trivial | refine ⟨rfl, ?_⟩ | refine ⟨i64_eq (by first | omega | (simp only; omega)), ?_⟩ | refine ⟨u64_eq (by first | omega | (simp only; omega)), ?_⟩)) ?_
      rw [show (lst i g).map cn ++ [cn (g i)] = (lst (i + 1) g).map cn by rw [lst_snoc, List.map_append]; rfl]
      exact Seals.sub (by repeat (first | exact Sub.nil _ | refine Sub.cons (by repeat (first | exact List.Mem.head _ | apply List.Mem.tail)) ?_))
    · have hii : i = n - 1 := by omega
      subst hii
      refine call_fn (hn vo) (Seals.toldL hvo) (by repeat (first | exact Sub.nil _ | refine Sub.cons (by repeat (first | exact List.Mem.head _ | apply List.Mem.tail)) ?_)) ?_
      rintro r _ _ ⟨rfl, rfl⟩
      exact fin ⟨rfl, rfl⟩ (Seals.sub (by repeat (first | exact Sub.nil _ | refine Sub.cons (by repeat (first | exact List.Mem.head _ | apply List.Mem.tail)) ?_)))
end Go.Proofs.YtdnjahdppgjmlaaGreat
