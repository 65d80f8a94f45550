/- The law RootsFinds, lifted. No condition. -/
import Derived.Test.YtgpcepcbdpigfaaGreatM5
import Derived.Test.YtgpcepcbdpigfaaGreatRows
import Derived.OpenShut
import Derived.Below
import Derived.Lib.SmallJoins
set_option linter.unusedVariables false
set_option linter.unusedSimpArgs false
namespace Go.Proofs.YtgpcepcbdpigfaaGreat
open Go.RowKit
theorem rCmpZ6 (v w : Value) (x y : Int) (a : Nat) (hx : sz x a) (hy : sz y a) (ha : a ≤ 137438953471) :
    Meets Tryz.prog 32 [v, w] [(v, zd x), (w, zd y)] (fun r os fs => os = [] ∧ fs = [] ∧ r = .int .i64 (x - y).sign) := by
  have h := fun y1 y2 => rZSub_meets y1 y2 (decide (x < 0)) (decide (y < 0)) (lims x.natAbs) (lims y.natAbs) (Lim_lims _) (Lim_lims _) (Nat.le_trans hx.len (by omega)) (Nat.le_trans hy.len (by omega))
  simp only [iv_zd] at h
  have hd : sz (x - y) (a + 1) := sz_sub hx hy
  have hs := fun z => rSign_meets z (decide (x - y < 0)) (lims (x - y).natAbs) (Lim_lims _) (Nat.le_trans hd.len (by omega))
  simp only [iv_zd] at hs
  refine meets_of_vc Tryz.func32 (by kernel_rfl) rfl (by kernel_rfl) (Nat.le_of_ble_eq_true rfl) ?_
  refine box_rule (Reads.fact (d := zd x) qM) fun p hp => ?_
  refine box_rule (Reads.fact (d := zd y) qM) fun q hq => ?_
  refine load_box (d := zd x) 1 rfl hp rfl (load_I _ _) fun y1 => ?_
  refine load_box (d := zd y) 0 rfl hq rfl (load_I _ _) fun y2 => ?_
  refine call_fn (h y1 y2) (Seals.refl _ _) qS ?_
  rintro z _ _ ⟨rfl, rfl⟩
  refine call_fn (hs z) (Seals.refl _ _) qS ?_
  rintro _ _ _ ⟨rfl, rfl, rfl⟩
  exact fin ⟨rfl, rfl, rfl⟩ (Seals.trans (Seals.drop 0 _ _) (Seals.trans (Seals.drop 0 _ _) (Seals.nil _ _)))
theorem rCmpJ6 (v w : Value) (x y : Bool × List Nat) (a : Nat) (hx : Lim x.2) (lx : x.2.length ≤ a) (hy : Lim y.2) (ly : y.2.length ≤ a) (ha : a ≤ 137438953471) :
    Meets Tryz.prog 32 [v, w] [(v, J x), (w, J y)] (fun r os fs => os = [] ∧ fs = [] ∧ r = .int .i64 (jv x - jv y).sign) := by
  have h : ∀ y1 y2, Meets Tryz.prog 60 [y1, y2] [(y1, J x), (y2, J y)] (fun r os fs => os = [] ∧ fs = [(r, zd (jv x - jv y))]) := fun y1 y2 => rZSub_meets y1 y2 x.1 y.1 x.2 y.2 hx hy (by omega) (by omega)
  have hd : sz (jv x - jv y) (a + 1) := sz_sub (sz_jv hx lx) (sz_jv hy ly)
  have hs := fun z => rSign_meets z (decide (jv x - jv y < 0)) (lims (jv x - jv y).natAbs) (Lim_lims _) (Nat.le_trans hd.len (by omega))
  simp only [iv_zd] at hs
  refine meets_of_vc Tryz.func32 (by kernel_rfl) rfl (by kernel_rfl) (Nat.le_of_ble_eq_true rfl) ?_
  refine box_rule (Reads.fact (d := J x) qM) fun p hp => ?_
  refine box_rule (Reads.fact (d := J y) qM) fun q hq => ?_
  refine load_box (d := J x) 1 rfl hp rfl (load_J _) fun y1 => ?_
  refine load_box (d := J y) 0 rfl hq rfl (load_J _) fun y2 => ?_
  refine call_fn (h y1 y2) (Seals.refl _ _) qS ?_
  rintro z _ _ ⟨rfl, rfl⟩
  refine call_fn (hs z) (Seals.refl _ _) qS ?_
  rintro _ _ _ ⟨rfl, rfl, rfl⟩
  exact fin ⟨rfl, rfl, rfl⟩ (Seals.trans (Seals.drop 0 _ _) (Seals.trans (Seals.drop 0 _ _) (Seals.nil _ _)))
theorem rfBound_meets (v : Value) (p : Row) (k : Nat) (hp : Fit k p) (hk : k ≤ 1073741824) (h1k : 1 ≤ k) (lp : p.length ≤ 1048576) :
    Meets Tryz.prog 9 [v] [(v, V p)] (fun r os fs => os = [] ∧ ∃ q, r = .tuple #[q, .int .i64 (if dg (vv p) = 0 then 1 else 0)] ∧ fs = [(q, zd (if dg (vv p) = 0 then 0 else rbnd (vv p)))]) := by
  have hdeg := rDegreeN v p (hp.mono (by omega))
  have hlen : (vv p).length = p.length := vv_len p
  have hdl := dg_le_len (vv p)
  refine meets_of_vc Tryz.func9 (by kernel_rfl) rfl (by kernel_rfl) (Nat.le_of_ble_eq_true rfl) ?_
  refine alloc_rule (d := I false []) fun o ho => ?_
  by_cases hz : dg (vv p) = 0
  · rw [if_pos hz, if_pos hz]
    refine call_fn hdeg (Seals.refl _ _) qS ?_
    rintro _ _ _ ⟨rfl, rfl, rfl⟩
    refine cmp_true rfl (by omega) ?_
    refine build0 (da := .one (.bool false)) (db := U (lims 0)) (fun S w => ⟨[.bool false], [.slice none 0 0], rfl, rd_false S w, by rw [lims_zero]; exact rd_nil S w 1 _⟩) fun z => ?_
    refine store_box (d := zd 0) 0 rfl ho rfl (by kernel_rfl) (Reads.fact (v := z) (d := zd 0) qM) ?_
    refine load_box (d := zd 0) 0 rfl ho rfl (load_I _ _) fun r => ?_
    exact fin ⟨rfl, r, rfl, rfl⟩ (Seals.trans (Seals.drop 0 _ _) (Seals.sub qS))
  rw [if_neg hz, if_neg hz]
  obtain ⟨D, hD⟩ : ∃ D, dg (vv p) = D + 1 := ⟨dg (vv p) - 1, by omega⟩
  rw [hD, show (((D + 1 : Nat) : Int) - 1) = (D : Nat) by omega] at hdeg
  have hld : ld (vv p) = jv (p.getD D z0) := by
    unfold ld; rw [hD]; exact vv_get p D (by omega)
  have hld0 := ld_ne (l := vv p) (by omega)
  have hM : ∀ i, sz (mxa ((vv p).take i) : Nat) k := fun i => mxa_sz (hp.szR.take i)
  have hMs : ∀ i, i < p.length → mxa ((vv p).take (i + 1)) = max (mxa ((vv p).take i)) (jv (p.getD i z0)).natAbs := fun i hi => by
    rw [mxa_take (by omega), vv_get p i hi]
  have hnn : ∀ (z : Int), sz z k → sz ((z.natAbs : Nat) : Int) k := fun z h => by unfold sz at *; rwa [Int.natAbs_natCast]
  have habs : ∀ y i, Meets Tryz.prog 33 [y] [(y, J (p.getD i z0))] (fun r os fs => os = [] ∧ fs = [(r, zd ((jv (p.getD i z0)).natAbs : Nat))]) := fun y i => by
    have := hp.get i
    exact rAbs_meets y (p.getD i z0).1 (p.getD i z0).2 this.1 (by omega)
  have hdm := fun r1 r2 => rDivModZ r1 r2 (mxa ((vv p).take D) : Nat) ((jv (p.getD D z0)).natAbs : Nat) k (hM D) (hnn _ (sz_jv (hp.get D).1 (hp.get D).2)) (by omega) (by rw [hld] at hld0; omega)
  have hbd : rbnd (vv p) = ((mxa ((vv p).take D) : Nat) : Int) / ((jv (p.getD D z0)).natAbs : Int) + 2 := by unfold rbnd; rw [hD, hld]; rfl
  rw [hbd]
  have hQz : sz (((mxa ((vv p).take D) : Nat) : Int) / ((jv (p.getD D z0)).natAbs : Int)) k := sz_div (hM D)
  generalize hQ : ((mxa ((vv p).take D) : Nat) : Int) / ((jv (p.getD D z0)).natAbs : Int) = Q at *
  generalize ((mxa ((vv p).take D) : Nat) : Int) % ((jv (p.getD D z0)).natAbs : Int) = R at *
  refine call_fn hdeg (Seals.refl _ _) qS ?_
  rintro _ _ _ ⟨rfl, rfl, rfl⟩
  refine cmp_false rfl (by omega) ?_
  refine build0 (da := .one (.bool false)) (db := U (lims 0)) (fun S w => ⟨[.bool false], [.slice none 0 0], rfl, rd_false S w, by rw [lims_zero]; exact rd_nil S w 1 _⟩) fun z => ?_
  refine alloc_rule (d := I false []) fun mb hmb => ?_
  refine store_box (d := zd 0) 0 rfl hmb rfl (by kernel_rfl) (Reads.fact (v := z) (d := zd 0) qM) ?_
  refine loop_rule (X := Nat) (fun i => ([(0, v), (2, o), (4, .int .i64 (D : Nat)), (5, mb), (6, .int .i64 (i : Nat))], [own1 mb 2 1 (fun _ => zd (mxa ((vv p).take i) : Nat)), own1 o 2 1 (fun _ => I false [])], [(v, V p)]))
    (fun i => i ≤ D) (fun i => D - i) rfl ?_ ?_
  · exact again 0 (Nat.zero_le _) trivial qF (Seals.trans (Seals.box0 rfl) (Seals.sub qS))
  rintro i hi
  refine cmp_split _ rfl (fun hlt => ?_) (fun hlt => ?_)
  · have hiD : i < D := by omega
    have hs := hMs i (by omega)
    have za := hnn _ (sz_jv (hp.get i).1 (hp.get i).2)
    refine draw_rule [0, 1, 2, 3, 5, 4, 6, 7] [0, 1, 2, 3, 4, 5, 6, 7] (by kernel_rfl) (by kernel_rfl) ?_
    refine index_fact (v := v) qM i rfl (by omega) fun a1 => ?_
    refine load_fact (d := J (p.getD i z0)) qM (load_J _) fun a2 => ?_
    refine load_box (d := zd (mxa ((vv p).take i) : Nat)) 0 rfl hmb rfl (load_I _ _) fun a4 => ?_
    refine call_fn (habs a2 i) (Seals.refl _ _) qS ?_
    rintro a5 _ _ ⟨rfl, rfl⟩
    refine call_fn (rCmpZ6 a5 a4 _ _ k za (hM i) (by omega)) (Seals.refl _ _) qS ?_
    rintro _ _ _ ⟨rfl, rfl, rfl⟩
    refine cmp_split _ rfl (fun hgt => ?_) (fun hgt => ?_)
    · have hg : mxa ((vv p).take i) < (jv (p.getD i z0)).natAbs := by
        refine Nat.lt_of_not_ge fun h => ?_
        rcases Int.lt_trichotomy (((jv (p.getD i z0)).natAbs : Int) - (mxa ((vv p).take i) : Nat)) 0 with g | g | g
        · rw [sgn_neg g] at hgt; omega
        · rw [g] at hgt; simp at hgt
        · omega
      refine index_fact (v := v) qM i rfl (by omega) fun a6 => ?_
      refine load_fact (d := J (p.getD i z0)) qM (load_J _) fun a8 => ?_
      refine call_fn (habs a8 i) (Seals.refl _ _) qS ?_
      rintro a7 _ _ ⟨rfl, rfl⟩
      refine store_box (d := zd ((jv (p.getD i z0)).natAbs : Nat)) 0 rfl hmb rfl (by kernel_rfl) (Reads.fact (v := a7) qM) ?_
      refine ar rfl qI ?_
      exact again (i + 1) (by omega) (by simp only; omega) qF (Seals.trans (Seals.box0 (by rw [hs, Nat.max_eq_right (Nat.le_of_lt hg)]; rfl)) (Seals.sub qS))
    · have hg : (jv (p.getD i z0)).natAbs ≤ mxa ((vv p).take i) := by
        refine Nat.le_of_not_lt fun h => hgt ?_
        rw [sgn_pos (show 0 < ((jv (p.getD i z0)).natAbs : Int) - (mxa ((vv p).take i) : Nat) by omega)]; decide
      refine ar rfl qI ?_
      exact again (i + 1) (by omega) (by simp only; omega) qF (Seals.trans (Seals.box0 (by rw [hs, Nat.max_eq_left hg])) (Seals.sub qS))
  have hiD : D = i := by omega
  subst hiD
  refine draw_join (X := Value) (fun b1 => ([(2, o), (7, b1)], [own1 o 2 1 (fun _ => I false [])], [(b1, .ptr (zd Q))])) (fun _ => True) ?_ ?_
  ·
      refine draw_ord [0, 1, 2, 3, 4, 5, 6, 7, 8, 11, 12, 13, 9, 14, 10, 15] (by kernel_rfl) ?_
      refine ord_split 5 11 (by kernel_rfl) (by kernel_rfl) (by kernel_rfl) ?_ ?_
      · refine ord_split 5 12 (by kernel_rfl) (by kernel_rfl) (by kernel_rfl) ?_ ?_
        · refine ord_split 6 11 (by kernel_rfl) (by kernel_rfl) (by kernel_rfl) ?_ ?_
          · refine ord_split 6 12 (by kernel_rfl) (by kernel_rfl) (by kernel_rfl) ?_ ?_
            · refine ord_split 11 12 (by kernel_rfl) (by kernel_rfl) (by kernel_rfl) ?_ ?_
              · refine ord_go [0, 1, 2, 3, 4, 5, 6, 7, 8, 9, 10, 11, 12, 13, 14, 15] (by kernel_rfl) (by kernel_rfl) ?_
                refine load_box (d := zd (mxa ((vv p).take D) : Nat)) 0 rfl hmb rfl (load_I _ _) fun r1 => ?_
                refine index_fact (v := v) qM D rfl (by omega) fun r2 => ?_
                refine load_fact (d := J (p.getD D z0)) qM (load_J _) fun r3 => ?_
                refine call_fn (habs r3 D) (Seals.refl _ _) qS ?_
                rintro r4 _ _ ⟨rfl, rfl⟩
                refine call_fn (hdm r1 r4) (Seals.refl _ _) qS ?_
                rintro _ _ _ ⟨rfl, r5, r6, rfl, rfl⟩
                refine alloc_rule (d := I false []) fun b1 h1 => ?_
                refine alloc_rule (d := I false []) fun b2 h2 => ?_
                refine store_box (d := zd Q) 1 rfl h1 rfl (by kernel_rfl) (Reads.fact (v := r5) qM) ?_
                refine store_box (d := zd R) 0 rfl h2 rfl (by kernel_rfl) (Reads.fact (v := r6) qM) ?_
                exact again b1 trivial trivial qF (Seals.trans (Seals.drop 0 _ _) (Seals.trans (Seals.box (d := zd Q) 0 rfl h1 rfl) (Seals.trans (Seals.drop 0 _ _) (Seals.sub qS))))
              · refine ord_go [0, 1, 2, 3, 4, 5, 6, 7, 8, 9, 10, 12, 11, 13, 14, 15] (by kernel_rfl) (by kernel_rfl) ?_
                refine load_box (d := zd (mxa ((vv p).take D) : Nat)) 0 rfl hmb rfl (load_I _ _) fun r1 => ?_
                refine index_fact (v := v) qM D rfl (by omega) fun r2 => ?_
                refine load_fact (d := J (p.getD D z0)) qM (load_J _) fun r3 => ?_
                refine call_fn (habs r3 D) (Seals.refl _ _) qS ?_
                rintro r4 _ _ ⟨rfl, rfl⟩
                refine call_fn (hdm r1 r4) (Seals.refl _ _) qS ?_
                rintro _ _ _ ⟨rfl, r5, r6, rfl, rfl⟩
                refine alloc_rule (d := I false []) fun b2 h2 => ?_
                refine alloc_rule (d := I false []) fun b1 h1 => ?_
                refine store_box (d := zd Q) 0 rfl h1 rfl (by kernel_rfl) (Reads.fact (v := r5) qM) ?_
                refine store_box (d := zd R) 1 rfl h2 rfl (by kernel_rfl) (Reads.fact (v := r6) qM) ?_
                exact again b1 trivial trivial qF (Seals.trans (Seals.box (d := zd Q) 0 rfl h1 rfl) (Seals.trans (Seals.drop 0 _ _) (Seals.trans (Seals.drop 0 _ _) (Seals.sub qS))))
            · refine ord_go [0, 1, 2, 3, 4, 5, 12, 6, 7, 8, 9, 10, 11, 13, 14, 15] (by kernel_rfl) (by kernel_rfl) ?_
              refine load_box (d := zd (mxa ((vv p).take D) : Nat)) 0 rfl hmb rfl (load_I _ _) fun r1 => ?_
              refine index_fact (v := v) qM D rfl (by omega) fun r2 => ?_
              refine load_fact (d := J (p.getD D z0)) qM (load_J _) fun r3 => ?_
              refine call_fn (habs r3 D) (Seals.refl _ _) qS ?_
              rintro r4 _ _ ⟨rfl, rfl⟩
              refine alloc_rule (d := I false []) fun b2 h2 => ?_
              refine call_fn (hdm r1 r4) (Seals.refl _ _) qS ?_
              rintro _ _ _ ⟨rfl, r5, r6, rfl, rfl⟩
              refine alloc_rule (d := I false []) fun b1 h1 => ?_
              refine store_box (d := zd Q) 0 rfl h1 rfl (by kernel_rfl) (Reads.fact (v := r5) qM) ?_
              refine store_box (d := zd R) 1 rfl h2 rfl (by kernel_rfl) (Reads.fact (v := r6) qM) ?_
              exact again b1 trivial trivial qF (Seals.trans (Seals.box (d := zd Q) 0 rfl h1 rfl) (Seals.trans (Seals.drop 0 _ _) (Seals.trans (Seals.drop 0 _ _) (Seals.sub qS))))
          · refine ord_split 6 12 (by kernel_rfl) (by kernel_rfl) (by kernel_rfl) ?_ ?_
            · refine ord_go [0, 1, 2, 3, 4, 5, 11, 6, 7, 8, 9, 10, 12, 13, 14, 15] (by kernel_rfl) (by kernel_rfl) ?_
              refine load_box (d := zd (mxa ((vv p).take D) : Nat)) 0 rfl hmb rfl (load_I _ _) fun r1 => ?_
              refine index_fact (v := v) qM D rfl (by omega) fun r2 => ?_
              refine load_fact (d := J (p.getD D z0)) qM (load_J _) fun r3 => ?_
              refine call_fn (habs r3 D) (Seals.refl _ _) qS ?_
              rintro r4 _ _ ⟨rfl, rfl⟩
              refine alloc_rule (d := I false []) fun b1 h1 => ?_
              refine call_fn (hdm r1 r4) (Seals.refl _ _) qS ?_
              rintro _ _ _ ⟨rfl, r5, r6, rfl, rfl⟩
              refine alloc_rule (d := I false []) fun b2 h2 => ?_
              refine store_box (d := zd Q) 1 rfl h1 rfl (by kernel_rfl) (Reads.fact (v := r5) qM) ?_
              refine store_box (d := zd R) 0 rfl h2 rfl (by kernel_rfl) (Reads.fact (v := r6) qM) ?_
              exact again b1 trivial trivial qF (Seals.trans (Seals.drop 0 _ _) (Seals.trans (Seals.box (d := zd Q) 0 rfl h1 rfl) (Seals.trans (Seals.drop 0 _ _) (Seals.sub qS))))
            · refine ord_split 11 12 (by kernel_rfl) (by kernel_rfl) (by kernel_rfl) ?_ ?_
              · refine ord_go [0, 1, 2, 3, 4, 5, 11, 12, 6, 7, 8, 9, 10, 13, 14, 15] (by kernel_rfl) (by kernel_rfl) ?_
                refine load_box (d := zd (mxa ((vv p).take D) : Nat)) 0 rfl hmb rfl (load_I _ _) fun r1 => ?_
                refine index_fact (v := v) qM D rfl (by omega) fun r2 => ?_
                refine load_fact (d := J (p.getD D z0)) qM (load_J _) fun r3 => ?_
                refine call_fn (habs r3 D) (Seals.refl _ _) qS ?_
                rintro r4 _ _ ⟨rfl, rfl⟩
                refine alloc_rule (d := I false []) fun b1 h1 => ?_
                refine alloc_rule (d := I false []) fun b2 h2 => ?_
                refine call_fn (hdm r1 r4) (Seals.refl _ _) qS ?_
                rintro _ _ _ ⟨rfl, r5, r6, rfl, rfl⟩
                refine store_box (d := zd Q) 1 rfl h1 rfl (by kernel_rfl) (Reads.fact (v := r5) qM) ?_
                refine store_box (d := zd R) 0 rfl h2 rfl (by kernel_rfl) (Reads.fact (v := r6) qM) ?_
                exact again b1 trivial trivial qF (Seals.trans (Seals.drop 0 _ _) (Seals.trans (Seals.box (d := zd Q) 0 rfl h1 rfl) (Seals.trans (Seals.drop 0 _ _) (Seals.sub qS))))
              · refine ord_go [0, 1, 2, 3, 4, 5, 12, 11, 6, 7, 8, 9, 10, 13, 14, 15] (by kernel_rfl) (by kernel_rfl) ?_
                refine load_box (d := zd (mxa ((vv p).take D) : Nat)) 0 rfl hmb rfl (load_I _ _) fun r1 => ?_
                refine index_fact (v := v) qM D rfl (by omega) fun r2 => ?_
                refine load_fact (d := J (p.getD D z0)) qM (load_J _) fun r3 => ?_
                refine call_fn (habs r3 D) (Seals.refl _ _) qS ?_
                rintro r4 _ _ ⟨rfl, rfl⟩
                refine alloc_rule (d := I false []) fun b2 h2 => ?_
                refine alloc_rule (d := I false []) fun b1 h1 => ?_
                refine call_fn (hdm r1 r4) (Seals.refl _ _) qS ?_
                rintro _ _ _ ⟨rfl, r5, r6, rfl, rfl⟩
                refine store_box (d := zd Q) 0 rfl h1 rfl (by kernel_rfl) (Reads.fact (v := r5) qM) ?_
                refine store_box (d := zd R) 1 rfl h2 rfl (by kernel_rfl) (Reads.fact (v := r6) qM) ?_
                exact again b1 trivial trivial qF (Seals.trans (Seals.box (d := zd Q) 0 rfl h1 rfl) (Seals.trans (Seals.drop 0 _ _) (Seals.trans (Seals.drop 0 _ _) (Seals.sub qS))))
        · refine ord_split 6 11 (by kernel_rfl) (by kernel_rfl) (by kernel_rfl) ?_ ?_
          · refine ord_go [0, 1, 2, 3, 4, 12, 5, 6, 7, 8, 9, 10, 11, 13, 14, 15] (by kernel_rfl) (by kernel_rfl) ?_
            refine load_box (d := zd (mxa ((vv p).take D) : Nat)) 0 rfl hmb rfl (load_I _ _) fun r1 => ?_
            refine index_fact (v := v) qM D rfl (by omega) fun r2 => ?_
            refine load_fact (d := J (p.getD D z0)) qM (load_J _) fun r3 => ?_
            refine alloc_rule (d := I false []) fun b2 h2 => ?_
            refine call_fn (habs r3 D) (Seals.refl _ _) qS ?_
            rintro r4 _ _ ⟨rfl, rfl⟩
            refine call_fn (hdm r1 r4) (Seals.refl _ _) qS ?_
            rintro _ _ _ ⟨rfl, r5, r6, rfl, rfl⟩
            refine alloc_rule (d := I false []) fun b1 h1 => ?_
            refine store_box (d := zd Q) 0 rfl h1 rfl (by kernel_rfl) (Reads.fact (v := r5) qM) ?_
            refine store_box (d := zd R) 1 rfl h2 rfl (by kernel_rfl) (Reads.fact (v := r6) qM) ?_
            exact again b1 trivial trivial qF (Seals.trans (Seals.box (d := zd Q) 0 rfl h1 rfl) (Seals.trans (Seals.drop 0 _ _) (Seals.trans (Seals.drop 0 _ _) (Seals.sub qS))))
          · refine ord_go [0, 1, 2, 3, 4, 12, 5, 11, 6, 7, 8, 9, 10, 13, 14, 15] (by kernel_rfl) (by kernel_rfl) ?_
            refine load_box (d := zd (mxa ((vv p).take D) : Nat)) 0 rfl hmb rfl (load_I _ _) fun r1 => ?_
            refine index_fact (v := v) qM D rfl (by omega) fun r2 => ?_
            refine load_fact (d := J (p.getD D z0)) qM (load_J _) fun r3 => ?_
            refine alloc_rule (d := I false []) fun b2 h2 => ?_
            refine call_fn (habs r3 D) (Seals.refl _ _) qS ?_
            rintro r4 _ _ ⟨rfl, rfl⟩
            refine alloc_rule (d := I false []) fun b1 h1 => ?_
            refine call_fn (hdm r1 r4) (Seals.refl _ _) qS ?_
            rintro _ _ _ ⟨rfl, r5, r6, rfl, rfl⟩
            refine store_box (d := zd Q) 0 rfl h1 rfl (by kernel_rfl) (Reads.fact (v := r5) qM) ?_
            refine store_box (d := zd R) 1 rfl h2 rfl (by kernel_rfl) (Reads.fact (v := r6) qM) ?_
            exact again b1 trivial trivial qF (Seals.trans (Seals.box (d := zd Q) 0 rfl h1 rfl) (Seals.trans (Seals.drop 0 _ _) (Seals.trans (Seals.drop 0 _ _) (Seals.sub qS))))
      · refine ord_split 5 12 (by kernel_rfl) (by kernel_rfl) (by kernel_rfl) ?_ ?_
        · refine ord_split 6 12 (by kernel_rfl) (by kernel_rfl) (by kernel_rfl) ?_ ?_
          · refine ord_go [0, 1, 2, 3, 4, 11, 5, 6, 7, 8, 9, 10, 12, 13, 14, 15] (by kernel_rfl) (by kernel_rfl) ?_
            refine load_box (d := zd (mxa ((vv p).take D) : Nat)) 0 rfl hmb rfl (load_I _ _) fun r1 => ?_
            refine index_fact (v := v) qM D rfl (by omega) fun r2 => ?_
            refine load_fact (d := J (p.getD D z0)) qM (load_J _) fun r3 => ?_
            refine alloc_rule (d := I false []) fun b1 h1 => ?_
            refine call_fn (habs r3 D) (Seals.refl _ _) qS ?_
            rintro r4 _ _ ⟨rfl, rfl⟩
            refine call_fn (hdm r1 r4) (Seals.refl _ _) qS ?_
            rintro _ _ _ ⟨rfl, r5, r6, rfl, rfl⟩
            refine alloc_rule (d := I false []) fun b2 h2 => ?_
            refine store_box (d := zd Q) 1 rfl h1 rfl (by kernel_rfl) (Reads.fact (v := r5) qM) ?_
            refine store_box (d := zd R) 0 rfl h2 rfl (by kernel_rfl) (Reads.fact (v := r6) qM) ?_
            exact again b1 trivial trivial qF (Seals.trans (Seals.drop 0 _ _) (Seals.trans (Seals.box (d := zd Q) 0 rfl h1 rfl) (Seals.trans (Seals.drop 0 _ _) (Seals.sub qS))))
          · refine ord_go [0, 1, 2, 3, 4, 11, 5, 12, 6, 7, 8, 9, 10, 13, 14, 15] (by kernel_rfl) (by kernel_rfl) ?_
            refine load_box (d := zd (mxa ((vv p).take D) : Nat)) 0 rfl hmb rfl (load_I _ _) fun r1 => ?_
            refine index_fact (v := v) qM D rfl (by omega) fun r2 => ?_
            refine load_fact (d := J (p.getD D z0)) qM (load_J _) fun r3 => ?_
            refine alloc_rule (d := I false []) fun b1 h1 => ?_
            refine call_fn (habs r3 D) (Seals.refl _ _) qS ?_
            rintro r4 _ _ ⟨rfl, rfl⟩
            refine alloc_rule (d := I false []) fun b2 h2 => ?_
            refine call_fn (hdm r1 r4) (Seals.refl _ _) qS ?_
            rintro _ _ _ ⟨rfl, r5, r6, rfl, rfl⟩
            refine store_box (d := zd Q) 1 rfl h1 rfl (by kernel_rfl) (Reads.fact (v := r5) qM) ?_
            refine store_box (d := zd R) 0 rfl h2 rfl (by kernel_rfl) (Reads.fact (v := r6) qM) ?_
            exact again b1 trivial trivial qF (Seals.trans (Seals.drop 0 _ _) (Seals.trans (Seals.box (d := zd Q) 0 rfl h1 rfl) (Seals.trans (Seals.drop 0 _ _) (Seals.sub qS))))
        · refine ord_split 11 12 (by kernel_rfl) (by kernel_rfl) (by kernel_rfl) ?_ ?_
          · refine ord_go [0, 1, 2, 3, 4, 11, 12, 5, 6, 7, 8, 9, 10, 13, 14, 15] (by kernel_rfl) (by kernel_rfl) ?_
            refine load_box (d := zd (mxa ((vv p).take D) : Nat)) 0 rfl hmb rfl (load_I _ _) fun r1 => ?_
            refine index_fact (v := v) qM D rfl (by omega) fun r2 => ?_
            refine load_fact (d := J (p.getD D z0)) qM (load_J _) fun r3 => ?_
            refine alloc_rule (d := I false []) fun b1 h1 => ?_
            refine alloc_rule (d := I false []) fun b2 h2 => ?_
            refine call_fn (habs r3 D) (Seals.refl _ _) qS ?_
            rintro r4 _ _ ⟨rfl, rfl⟩
            refine call_fn (hdm r1 r4) (Seals.refl _ _) qS ?_
            rintro _ _ _ ⟨rfl, r5, r6, rfl, rfl⟩
            refine store_box (d := zd Q) 1 rfl h1 rfl (by kernel_rfl) (Reads.fact (v := r5) qM) ?_
            refine store_box (d := zd R) 0 rfl h2 rfl (by kernel_rfl) (Reads.fact (v := r6) qM) ?_
            exact again b1 trivial trivial qF (Seals.trans (Seals.drop 0 _ _) (Seals.trans (Seals.box (d := zd Q) 0 rfl h1 rfl) (Seals.trans (Seals.drop 0 _ _) (Seals.sub qS))))
          · refine ord_go [0, 1, 2, 3, 4, 12, 11, 5, 6, 7, 8, 9, 10, 13, 14, 15] (by kernel_rfl) (by kernel_rfl) ?_
            refine load_box (d := zd (mxa ((vv p).take D) : Nat)) 0 rfl hmb rfl (load_I _ _) fun r1 => ?_
            refine index_fact (v := v) qM D rfl (by omega) fun r2 => ?_
            refine load_fact (d := J (p.getD D z0)) qM (load_J _) fun r3 => ?_
            refine alloc_rule (d := I false []) fun b2 h2 => ?_
            refine alloc_rule (d := I false []) fun b1 h1 => ?_
            refine call_fn (habs r3 D) (Seals.refl _ _) qS ?_
            rintro r4 _ _ ⟨rfl, rfl⟩
            refine call_fn (hdm r1 r4) (Seals.refl _ _) qS ?_
            rintro _ _ _ ⟨rfl, r5, r6, rfl, rfl⟩
            refine store_box (d := zd Q) 0 rfl h1 rfl (by kernel_rfl) (Reads.fact (v := r5) qM) ?_
            refine store_box (d := zd R) 1 rfl h2 rfl (by kernel_rfl) (Reads.fact (v := r6) qM) ?_
            exact again b1 trivial trivial qF (Seals.trans (Seals.box (d := zd Q) 0 rfl h1 rfl) (Seals.trans (Seals.drop 0 _ _) (Seals.trans (Seals.drop 0 _ _) (Seals.sub qS))))
  rintro b1 -
  simp only
  refine draw_rule [0, 1, 2, 3, 4] [0, 1, 2, 3, 4] (by kernel_rfl) (by kernel_rfl) ?_
  refine load_fact (d := zd Q) qM (load_I _ _) fun e1 => ?_
  refine call_fn (rOf_meets 2 (by decide) (by decide)) (Seals.refl _ _) qS ?_
  rintro e2 _ _ ⟨rfl, rfl⟩
  refine call_fn (rAddZ e1 e2 Q 2 k hQz ((show sz 2 1 by unfold sz; decide).mono h1k) (by omega)) (Seals.refl _ _) qS ?_
  rintro e3 _ _ ⟨rfl, rfl⟩
  refine store_box (d := zd (Q + 2)) 0 rfl ho rfl (by kernel_rfl) (Reads.fact (v := e3) qM) ?_
  refine load_box (d := zd (Q + 2)) 0 rfl ho rfl (load_I _ _) fun r => ?_
  exact fin ⟨rfl, r, rfl, rfl⟩ (Seals.trans (Seals.drop 0 _ _) (Seals.sub qS))
theorem tay_end {w i : Int} (hw : w ≠ 0) (l : List Int) : pev (tay (2 * w) (2 * i + 1) l) 1 = 0 ↔ pev (tay w i l) 1 = 0 := by
  have h1 := tay_ev (2 * w) (2 * i + 1) 1 l
  have h2 := tay_ev w i 1 l
  rw [show 2 * i + 1 + 1 = 2 * (i + 1) by omega, gh_hom, ← h2] at h1
  constructor
  · intro h
    rw [h, Int.mul_zero] at h1
    have h3 := (Int.mul_eq_zero.1 h1.symm).resolve_left (Int.pow_ne_zero (by decide))
    exact (Int.mul_eq_zero.1 h3).resolve_left hw
  · intro h
    rw [h, Int.mul_zero, Int.mul_zero] at h1
    exact (Int.mul_eq_zero.1 h1).resolve_left (by omega)
theorem unit_meets {u : List Int} {m J K : Nat} (hu : UOk u m J K) (h1K : 1 ≤ K) (hK : K ≤ 1073741824) : ∀ (d j i : Nat), j + d = J → i < 2 ^ j → ∀ v : Value,
    Meets Tryz.prog 40 [v] [(v, vd (tay (2 ^ j : Nat) i u))] (fun r os fs => os = [] ∧ fs = [] ∧ ∃ c : Nat, r = .int .i64 (c : Int) ∧ c ≤ 1000 ∧ CC u m j i (c + if pev (tay (2 ^ j : Nat) i u) 1 = 0 then 1 else 0)) := by
  intro d
  induction d with
  | zero =>
    intro j i hj hi v
    obtain rfl : j = J := by omega
    have hn := tay_nm (2 ^ j : Nat) i hu.nm
    have hl := tay_len (2 ^ j : Nat) i u
    have hz := hu.sz j i (Nat.le_refl _) hi
    have hul := List.length_pos_iff.2 hu.ne
    have hu6 := hu.len
    have hT : ∀ x, pev (pshi 1 (tay (2 ^ j : Nat) i u).reverse) x = pev (tay (2 ^ j : Nat) i u).reverse (x + 1) := fun x => ev_pshi _ _ _
    have hfew := hu.fine i _ hi hT
    have hcc := CC.desc hu.m1 hu.nm hu.ne hT hfew
    have hmay := may_meets v (tay (2 ^ j : Nat) i u) K hz (by omega) h1K hn (by omega) (by omega)
    generalize vs 0 (pshi 1 (tay (2 ^ j : Nat) i u).reverse) = n at *
    refine meets_of_vc Tryz.func40 (by kernel_rfl) rfl (by kernel_rfl) (Nat.le_of_ble_eq_true rfl) ?_
    refine call_fn hmay (Seals.refl _ _) qS ?_
    rintro _ _ _ ⟨rfl, rfl, rfl⟩
    refine cmp_true rfl (by omega) ?_
    exact fin ⟨rfl, rfl, n, rfl, by omega, hcc⟩ (Seals.nil _ _)
  | succ d ih =>
    intro j i hj hi v
    have hn := tay_nm (2 ^ j : Nat) i hu.nm
    have hl := tay_len (2 ^ j : Nat) i u
    have hz := hu.sz j i (by omega) hi
    have hul := List.length_pos_iff.2 hu.ne
    have hu6 := hu.len
    have hT : ∀ x, pev (pshi 1 (tay (2 ^ j : Nat) i u).reverse) x = pev (tay (2 ^ j : Nat) i u).reverse (x + 1) := fun x => ev_pshi _ _ _
    have hcc := CC.desc (j := j) (i := (i : Int)) hu.m1 hu.nm hu.ne hT
    have hmay := may_meets v (tay (2 ^ j : Nat) i u) K hz (by omega) h1K hn (by omega) (by omega)
    have hhalf := halved_meets v (tay (2 ^ j : Nat) i u) K hz (by omega) hn (by omega) (by omega)
    have hp : ((2 ^ (j + 1) : Nat) : Int) = 2 * ((2 ^ j : Nat) : Int) := by rw [Nat.pow_succ]; omega
    have hw0 : ((2 ^ j : Nat) : Int) ≠ 0 := by have : 0 < 2 ^ j := Nat.pow_pos (by decide); omega
    have hi2 : 2 * i + 1 < 2 ^ (j + 1) := by rw [Nat.pow_succ]; omega
    rw [halv_tay hw0 hu.nm, ← hp, show 2 * (i : Int) = ((2 * i : Nat) : Int) by omega] at hhalf
    have hw1 : ((2 ^ (j + 1) : Nat) : Int) ≠ 0 := by omega
    have zl := hu.sz (j + 1) (2 * i) (by omega) (by omega)
    have zr := hu.sz (j + 1) (2 * i + 1) (by omega) hi2
    have ll := tay_len (2 ^ (j + 1) : Nat) ((2 * i : Nat) : Int) u
    have hsh : ∀ y z, Meets Tryz.prog 77 [y, z] [(y, vd (tay (2 ^ (j + 1) : Nat) ((2 * i : Nat) : Int) u)), (z, zd 1)] (fun r os fs => os = [] ∧ fs = [(r, vd (tay (2 ^ (j + 1) : Nat) ((2 * i + 1 : Nat) : Int) u))]) := fun y z => by
      have := rShiftJ y z ((tay (2 ^ (j + 1) : Nat) ((2 * i : Nat) : Int) u).map cn) (cn 1) K 1 zl.fit h1K (Lim_lims _) (show (cn 1).2.length ≤ 1 from (sm5 1 (by decide)).len) (by decide) (by rw [List.length_map]; omega) (by rw [List.length_map]; omega)
      rw [vv_cn, jv_cn, shift_tay hw1 hu.nm, show ((2 * i : Nat) : Int) + 1 = ((2 * i + 1 : Nat) : Int) by omega] at this
      exact this
    have ih1 := ih (j + 1) (2 * i) (by omega) (by omega)
    have ih2 := ih (j + 1) (2 * i + 1) (by omega) hi2
    have hat : ∀ y, Meets Tryz.prog 78 [y, .int .i64 ((0 : Nat) : Int)] [(y, vd (tay (2 ^ (j + 1) : Nat) ((2 * i + 1 : Nat) : Int) u))] (fun r os fs => os = [] ∧ fs = [(r, zd ((tay (2 ^ (j + 1) : Nat) ((2 * i + 1 : Nat) : Int) u).getD 0 0))]) := fun y => by
      have := rAtN y ((tay (2 ^ (j + 1) : Nat) ((2 * i + 1 : Nat) : Int) u).map cn) (zr.fit.mono (by omega)) 0
      rw [vv_cn] at this
      exact this
    have hsg := fun y => rSignZ y ((tay (2 ^ (j + 1) : Nat) ((2 * i + 1 : Nat) : Int) u).getD 0 0) K (zr.get 0) (by omega)
    have hmid : (tay (2 ^ (j + 1) : Nat) ((2 * i + 1 : Nat) : Int) u).getD 0 0 = pev (tay (2 ^ (j + 1) : Nat) ((2 * i : Nat) : Int) u) 1 := by
      rw [← ev_at0, show ((2 * i + 1 : Nat) : Int) = ((2 * i : Nat) : Int) + 1 by omega, ← shift_tay hw1 hu.nm, ev_pshi]; rfl
    have hend := tay_end (w := ((2 ^ j : Nat) : Int)) (i := (i : Int)) hw0 u
    rw [← hp, show 2 * (i : Int) + 1 = ((2 * i + 1 : Nat) : Int) by omega] at hend
    have hjoin : ∀ c c' : Nat, CC u m (j + 1) ((2 * i : Nat) : Int) c → CC u m (j + 1) ((2 * i + 1 : Nat) : Int) c' → CC u m j i (c + c') := fun c c' h1 h2 => by
      rw [show ((2 * i : Nat) : Int) = 2 * (i : Int) by omega] at h1
      rw [show ((2 * i + 1 : Nat) : Int) = 2 * (i : Int) + 1 by omega] at h2
      exact h1.join h2
    obtain ⟨t, ht, htot⟩ := hu.tot
    have hle : ∀ c : Nat, CC u m j i c → c ≤ t := fun c h => h.le htot hi
    simp only [hend, ← hmid] at ih1 ih2
    generalize (tay (2 ^ (j + 1) : Nat) ((2 * i + 1 : Nat) : Int) u).getD 0 0 = mid at *
    generalize vs 0 (pshi 1 (tay (2 ^ j : Nat) i u).reverse) = n at *
    refine meets_of_vc Tryz.func40 (by kernel_rfl) rfl (by kernel_rfl) (Nat.le_of_ble_eq_true rfl) ?_
    refine call_fn hmay (Seals.refl _ _) qS ?_
    rintro _ _ _ ⟨rfl, rfl, rfl⟩
    refine cmp_split _ rfl (fun h2 => ?_) (fun h2 => ?_)
    · exact fin ⟨rfl, rfl, n, rfl, by omega, hcc (by omega)⟩ (Seals.nil _ _)
    refine call_fn hhalf (Seals.refl _ _) qS ?_
    rintro lv _ _ ⟨rfl, rfl⟩
    refine call_fn (rOf_meets 1 (by decide) (by decide)) (Seals.refl _ _) qS ?_
    rintro ov _ _ ⟨rfl, rfl⟩
    refine call_fn (hsh lv ov) (Seals.refl _ _) qS ?_
    rintro rv _ _ ⟨rfl, rfl⟩
    refine call_fn (ih1 lv) (Seals.refl _ _) qS ?_
    rintro _ _ _ ⟨rfl, rfl, c1, rfl, b1, k1⟩
    refine call_fn (ih2 rv) (Seals.refl _ _) qS ?_
    rintro _ _ _ ⟨rfl, rfl, c2, rfl, b2, k2⟩
    have k3 := hjoin _ _ k1 k2
    have k4 := hle _ k3
    refine ar rfl ⟨by omega, by omega⟩ ?_
    refine call_fn (hat rv) (Seals.refl _ _) qS ?_
    rintro av _ _ ⟨rfl, rfl⟩
    refine call_fn (hsg av) (Seals.refl _ _) qS ?_
    rintro _ _ _ ⟨rfl, rfl, rfl⟩
    refine cmp_split _ rfl (fun hz0 => ?_) (fun hz0 => ?_)
    · rw [if_pos (sgn0.1 hz0)] at k3 k4
      refine ar rfl ⟨by omega, by omega⟩ ?_
      refine fin ⟨rfl, rfl, c1 + c2 + 1, congrArg (Value.int .i64) (show (c1 : Int) + c2 + 1 = ((c1 + c2 + 1 : Nat) : Int) by omega), by omega, ?_⟩ (Seals.nil _ _)
      rw [show c1 + c2 + 1 + (if pev (tay (2 ^ j : Nat) i u) 1 = 0 then 1 else 0) = c1 + 1 + (c2 + if pev (tay (2 ^ j : Nat) i u) 1 = 0 then 1 else 0) by omega]
      exact k3
    · rw [if_neg fun h => hz0 (sgn0.2 h)] at k3 k4
      refine fin ⟨rfl, rfl, c1 + c2, congrArg (Value.int .i64) (show (c1 : Int) + c2 = ((c1 + c2 : Nat) : Int) by omega), by omega, ?_⟩ (Seals.nil _ _)
      rw [show c1 + c2 + (if pev (tay (2 ^ j : Nat) i u) 1 = 0 then 1 else 0) = c1 + 0 + (c2 + if pev (tay (2 ^ j : Nat) i u) 1 = 0 then 1 else 0) by omega]
      exact k3
open Go.RowKit
theorem tay_id {u : List Int} (h : Nm u) : tay ((2 ^ 0 : Nat) : Int) ((0 : Nat) : Int) u = u := by
  refine Nm.ext (tay_nm _ _ h) h fun x => ?_
  have h1 := tay_ev ((2 ^ 0 : Nat) : Int) ((0 : Nat) : Int) x u
  have h2 := gh_at 1 x u
  simp only [Int.one_mul, Int.one_pow] at h2
  have e1 : ((2 ^ 0 : Nat) : Int) = 1 := rfl
  have e2 : ((0 : Nat) : Int) + x = x := by omega
  rw [e1, e2, Int.one_mul, h2] at h1
  exact h1
theorem within_ev (s : List Int) (a m x : Int) : pev (pstr m (pshi a s)) x = pev s (a + m * x) := by rw [ev_pstr, ev_pshi, Int.add_comm]
theorem within_ne {s : List Int} {a m : Int} (hm : m ≠ 0) (h0 : 0 < dg s) : pstr m (pshi a s) ≠ [] := fun e => by
  have h1 : ∀ x, pev s (a + m * x) = 0 := fun x => by rw [← within_ev, e]; rfl
  have h2 := mult_ext hm (F := pshi a s) (G := []) (fun x => by rw [ev_pshi, Int.add_comm, h1]; rfl)
  have h3 := (dg_zero (l := s)).2 fun x => by
    have := h2 (x - a)
    rw [ev_pshi, show x - a + a = x by omega] at this
    rw [this]; rfl
  omega
theorem within_ok {s : List Int} {L : Nat → List Int} {r : Nat} {a : Int} {m : Nat} (hc : Chain L r) (he : L 0 = s) (hm : 1 ≤ m) (hz : szR 38 s) (hl : s.length ≤ 6) (h0 : 0 < dg s) (ha : sz a 2) (hmz : sz (m : Int) 2) (ht : rc s a (a + m) ≤ 1000) :
    szR 81 (pstr m (pshi a s)) ∧ (pstr m (pshi a s)).length ≤ 6 ∧ ∃ (J : Nat) (t : Nat), CC (pstr m (pshi a s)) m 0 0 t ∧ rc s a (a + m) = t ∧ UOk (pstr m (pshi a s)) m J (82 + J + 2) ∧ J ≤ 100000000 := by
  have h1 := (Lk.told hz hl).shi (a := a) (j := 2) ha (by decide)
  have h2 := h1.str (a := (m : Int)) (j := 2) hmz
  have hs : szR 81 (pstr m (pshi a s)) := h2.sz.mono (by decide)
  refine ⟨hs, h2.ll, ?_⟩
  obtain ⟨J, hJ1, hJ2⟩ : ∃ J, gbt 11 (64 * 82 + 10) + 64 * 82 + 30 ≤ J ∧ J ≤ 100000000 := ⟨_, Nat.le_refl _, by decide⟩
  obtain ⟨t, k1, k2, k3⟩ := uok (u := pstr m (pshi a s)) (k := 82) hc he hm (fun x => within_ev s a m x) (pstr_nm _ _) (within_ne (by omega) h0) h2.ll (hs.mono (by decide)) (hs.pder (by have := h2.ll; omega)) ht hJ1
  exact ⟨J, t, k1, k2, k3, hJ2⟩
open Go.RowKit
theorem rShr01_one (v : Value) (a : List Nat) (ha : Lim a) (la : a.length ≤ 137438953472) :
    Meets Tryz.prog 123 [v, .int .i64 1] [(v, U a)] (fun r os fs => os = [] ∧ fs = [(r, U (lims (nv a / 2)))]) := by
  have h1 := digs_len ha
  have dA := Dig_digs (nv a)
  have eA := dv_digs (nv a)
  have hdm := digits_meets v a ha (by omega)
  have hnil : digs (nv a) = [] ↔ nv a = 0 := digs_eq_nil
  generalize hX : digs (nv a) = x at *
  generalize hM : nv a = M at *
  refine meets_of_vc Tryz.func123 (by kernel_rfl) rfl (by kernel_rfl) (Nat.le_of_ble_eq_true rfl) ?_
  refine call_fn (rshift_meets 1) (Seals.refl _ _) qS ?_
  rintro _ _ _ ⟨rfl, rfl, rfl⟩
  rw [show far 1 = 1 by decide]
  refine call_fn hdm (Seals.refl _ _) qS ?_
  rintro vx _ _ ⟨rfl, rfl⟩
  refine quo_rule (by omega) (by decide) ⟨by omega, by omega⟩ ?_
  refine len_fact (v := vx) qM fun _ => ?_
  refine cmp_split _ rfl (fun h0 => ?_) (fun h0 => ?_)
  · have hx0 : M = 0 := hnil.1 (List.eq_nil_of_length_eq_zero (by omega))
    subst hx0
    refine fin ⟨rfl, rfl⟩ ?_
    rw [show 0 / 2 = 0 from rfl, lims_zero]
    exact Seals.cons (Knw.nil 1 _) (Seals.nil _ _)
  refine empty_U fun v0 hv0 => ?_
  refine quo_rule (by omega) (by decide) ⟨by omega, by omega⟩ ?_
  refine slice_fact (v := vx) (kl := .i64) (kh := .i64) qM 0 x.length _ _ (.inr rfl) (.inl ⟨rfl, rfl⟩) (Nat.zero_le _) (Nat.le_refl _) fun u => ?_
  refine append_U (m := x) 0 rfl hv0 (Knw.cast (Knw.fact (v := u) qM) ?_) (by simp; omega) (by simp; omega) fun vq hq => ?_
  · simp only [Nat.sub_zero, Nat.zero_add]; rfl
  rw [List.nil_append]
  refine rem_rule (by omega) (by decide) ?_
  refine conv_int ⟨_, Tryz.underlying3⟩ Tryz.underlying96 (1 % 32) (wrap_in ⟨by omega, by omega⟩) ?_
  refine shl_rule 1 1 rfl (by omega) (by omega) ?_
  refine len_U 0 rfl hq fun _ => ?_
  refine ar rfl qI ?_
  refine loop_rule (X := Nat × List Nat × Nat) (fun z => ([(5, vq), (6, .int .u64 2), (7, .int .u64 (z.2.2 : Nat)), (8, .int .i64 ((z.1 : Int) - 1))], [ownU vq z.2.1], []))
    (fun z => z.1 ≤ x.length ∧ z.2.1.length = x.length ∧ Dig z.2.1 ∧ z.2.2 < 2 ∧ (∀ j, j < z.1 → z.2.1.getD j 0 = x.getD j 0) ∧ dv (x.drop z.1) = dv (z.2.1.drop z.1) * 2 + z.2.2) (fun z => z.1) rfl ?_ ?_
  · exact again (x.length, x, 0) ⟨Nat.le_refl _, rfl, dA, by simp only; omega, fun _ _ => rfl, by simp [dv]⟩ trivial qF (Seals.sub qS)
  rintro ⟨k, l, left⟩ ⟨g1, g2, g3, g4, g6, g5⟩
  simp only at g1 g2 g3 g4 g5 g6 ⊢
  refine cmp_split _ rfl (fun hk => ?_) (fun hk => ?_)
  · obtain ⟨i, rfl⟩ : ∃ i, k = i + 1 := ⟨k - 1, by omega⟩
    have hi : i < x.length := by omega
    have hxi := dA.get i
    have hs1 := Nat.mod_lt (left * 4294967296 + x.getD i 0) (show 0 < 2 by omega)
    have hs2 := Nat.div_add_mod (left * 4294967296 + x.getD i 0) 2
    have hdl : (left * 4294967296 + x.getD i 0) / 2 < 4294967296 := by omega
    have hdr := dv_drop hi
    have hds := dv_drop_set (l := l) (i := i) (x := (left * 4294967296 + x.getD i 0) / 2) (by omega)
    have hli := g6 i (by omega)
    refine ar_wrap rfl ((left * 4294967296 : Nat) : Int) (by rw [show ((left : Int) * 4294967296) = ((left * 4294967296 : Nat) : Int) by omega]; exact wrap_in ⟨Int.natCast_nonneg _, by omega⟩) ?_
    refine index_U 0 rfl hq i (by omega) (by omega) ?_
    refine load_U 0 rfl i (by omega) ?_
    rw [hli]
    refine ar_wrap rfl ((left * 4294967296 + x.getD i 0 : Nat) : Int) (by rw [← Int.natCast_add]; exact wrap_in ⟨Int.natCast_nonneg _, by omega⟩) ?_
    have hst := div_step1 (x := x.getD i 0) (q := (left * 4294967296 + x.getD i 0) / 2) (r := (left * 4294967296 + x.getD i 0) % 2) g5 (by rw [Nat.mul_comm _ 2]; omega)
    have hgs : ∀ j q, j < i → (l.set i q).getD j 0 = x.getD j 0 := fun j q hj => by
      rw [← g6 j (by omega)]
      simp [List.getD_eq_getElem?_getD, List.getElem?_set, show ¬ i = j by omega]
    generalize left * 4294967296 + x.getD i 0 = s at *
    refine quo_rule (by omega) (by omega) ⟨by omega, by omega⟩ ?_
    refine index_U 0 rfl hq i (by omega) (by omega) ?_
    refine store_U 0 rfl (s / 2) (by omega) (by omega) ?_
    refine rem_rule (by omega) (by omega) ?_
    refine ar rfl qI ?_
    refine again (i, l.set i (s / 2), s % 2) ⟨by simp only; omega, by simp [g2], g3.set _ hdl, hs1, fun j hj => hgs j _ hj, ?_⟩ (by simp only; omega) ⟨rfl, rfl, u64_eq (by simp only; omega), i64_eq (by simp only; omega), trivial⟩ (Seals.sub qS)
    simp only
    rw [hdr, hds, hst]
  · have hk0 : k = 0 := by omega
    subst hk0
    rw [List.drop_zero, List.drop_zero, eA] at g5
    have e1 : M / 2 = dv l := by omega
    refine call_fn (limbs_meets vq l g3 (by omega)) (Seals.U 0 rfl hq) qS ?_
    rintro r1 _ _ ⟨rfl, rfl⟩
    refine fin ⟨rfl, rfl⟩ ?_
    rw [e1]
    exact Seals.sub qS
theorem rShr_one (v : Value) (x : Int) (a : Nat) (hx : sz x a) (ha : a ≤ 1073741824) :
    Meets Tryz.prog 86 [v, .int .i64 1] [(v, zd x)] (fun r os fs => os = [] ∧ fs = [(r, zd (x / 2))]) := by
  have hl : (lims x.natAbs).length ≤ a := hx.len
  have hn : ∀ y, Meets Tryz.prog 62 [y] [(y, zd x)] (fun r os fs => os = [] ∧ fs = [(r, zd x)]) := fun y => by
    have := rZNorm_meets y (decide (x < 0)) (lims x.natAbs) (Lim_lims _) (by omega)
    rw [iv_zd] at this
    exact this
  have h1 := fun y => rShr01_one y (lims x.natAbs) (Lim_lims _) (by omega)
  rw [nv_lims] at h1
  have hA := fun y1 y2 => rAdd_meets y1 y2 (lims x.natAbs) (lims 1) (Lim_lims _) (Lim_lims _) (by omega) (Nat.le_trans (lims_length_le (n := 1) (k := 1) (by decide)) (by decide))
  simp only [nv_lims] at hA
  have hl2 : (lims (x.natAbs + 1)).length ≤ a + 1 := by
    have h2 : sz (x.natAbs + 1 : Nat) (a + 1) := by
      unfold sz at *
      have : 18446744073709551616 ^ a < 18446744073709551616 ^ (a + 1) := Nat.pow_lt_pow_right (by decide) (by omega)
      omega
    exact h2.len
  have h2 := fun y => rShr01_one y (lims (x.natAbs + 1)) (Lim_lims _) (by omega)
  rw [nv_lims] at h2
  have hm1 := fun y => rMake_meets y false (lims (x.natAbs / 2)) (Lim_lims _) (Nat.le_trans (lims_length_le (Nat.lt_of_le_of_lt (Nat.div_le_self _ _) hx)) (by omega))
  have hm2 := fun y => rMake_meets y true (lims ((x.natAbs + 1) / 2)) (Lim_lims _) (Nat.le_trans (lims_length_le (Nat.lt_of_le_of_lt (show (x.natAbs + 1) / 2 ≤ x.natAbs + 1 by omega) (show x.natAbs + 1 < 18446744073709551616 ^ (a + 1) by
    have : 18446744073709551616 ^ a < 18446744073709551616 ^ (a + 1) := Nat.pow_lt_pow_right (by decide) (by omega)
    unfold sz at hx
    omega))) (by omega))
  have e1 : iv false (lims (x.natAbs / 2)) = (x.natAbs / 2 : Nat) := by unfold iv; rw [nv_lims]; simp
  have e2 : iv true (lims ((x.natAbs + 1) / 2)) = -((x.natAbs + 1) / 2 : Nat) := by unfold iv; rw [nv_lims]; simp
  rw [e1] at hm1
  rw [e2] at hm2
  have hs := fun y => rShl01_meets y [1] 1 (by intro z hz; rw [List.mem_singleton.1 hz]; decide) (by decide)
  have hone : nv [1] * 2 ^ far 1 = 2 := by decide
  rw [hone] at hs
  have hsub := fun y1 y2 => rSub_meets y1 y2 (lims 2) [1] (Lim_lims _) (by intro z hz; rw [List.mem_singleton.1 hz]; decide) (Nat.le_trans (lims_length_le (n := 2) (k := 1) (by decide)) (by decide)) (by decide)
  rw [nv_lims, show nv [1] = 1 by decide] at hsub
  refine meets_of_vc Tryz.func86 (by kernel_rfl) rfl (by kernel_rfl) (Nat.le_of_ble_eq_true rfl) ?_
  refine box_rule (Reads.fact (d := zd x) qM) fun b hb => ?_
  refine alloc_rule (d := I false []) fun o ho => ?_
  refine load_box (d := zd x) 1 rfl hb rfl (load_I _ _) fun y1 => ?_
  refine call_fn (hn y1) (Seals.refl _ _) qS ?_
  rintro y2 _ _ ⟨rfl, rfl⟩
  refine store_box (d := zd x) 1 rfl hb rfl (by kernel_rfl) (Reads.fact (v := y2) qM) ?_
  refine field_box 1 rfl hb ?_
  refine load_box_field_one (u := .bool (decide (x < 0))) 1 rfl (Part.left (Part.refl _)) ?_
  by_cases hx0 : x < 0
  · rw [decide_eq_true hx0]
    refine lit_U 1 rfl fun z1 => ?_
    refine call_fn (hs z1) (Seals.refl _ _) qS ?_
    rintro z2 _ _ ⟨rfl, rfl⟩
    refine lit_U 1 rfl fun z3 => ?_
    refine call_fn (hsub z2 z3) (Seals.refl _ _) qS ?_
    rintro _ _ _ ⟨rfl, h | ⟨_, z4, rfl, rfl⟩⟩
    · omega
    refine field_box 1 rfl hb ?_
    refine load_box_field (d := U (lims x.natAbs)) 1 rfl (Part.right (Part.refl _)) (load_L _) fun z5 => ?_
    refine call_fn (hA z5 z4) (Seals.refl _ _) qS ?_
    rintro z6 _ _ ⟨rfl, rfl⟩
    refine call_fn (h2 z6) (Seals.refl _ _) qS ?_
    rintro z7 _ _ ⟨rfl, rfl⟩
    refine call_fn (hm2 z7) (Seals.refl _ _) qS ?_
    rintro z8 _ _ ⟨rfl, rfl⟩
    have e3 : -(((x.natAbs + 1) / 2 : Nat) : Int) = x / 2 := by omega
    rw [e3]
    refine store_box (d := zd (x / 2)) 0 rfl ho rfl (by kernel_rfl) (Reads.fact (v := z8) qM) ?_
    refine load_box (d := zd (x / 2)) 0 rfl ho rfl (load_I _ _) fun r => ?_
    exact fin ⟨rfl, rfl⟩ (Seals.trans (Seals.drop 0 _ _) (Seals.trans (Seals.drop 0 _ _) (Seals.sub (fs' := [(r, zd (x / 2))]) qS)))
  · rw [decide_eq_false hx0]
    refine field_box 1 rfl hb ?_
    refine load_box_field (d := U (lims x.natAbs)) 1 rfl (Part.right (Part.refl _)) (load_L _) fun z5 => ?_
    refine call_fn (h1 z5) (Seals.refl _ _) qS ?_
    rintro z6 _ _ ⟨rfl, rfl⟩
    refine call_fn (hm1 z6) (Seals.refl _ _) qS ?_
    rintro z8 _ _ ⟨rfl, rfl⟩
    have e3 : ((x.natAbs / 2 : Nat) : Int) = x / 2 := by omega
    rw [e3]
    refine store_box (d := zd (x / 2)) 0 rfl ho rfl (by kernel_rfl) (Reads.fact (v := z8) qM) ?_
    refine load_box (d := zd (x / 2)) 0 rfl ho rfl (load_I _ _) fun r => ?_
    exact fin ⟨rfl, rfl⟩ (Seals.trans (Seals.drop 0 _ _) (Seals.trans (Seals.drop 0 _ _) (Seals.sub (fs' := [(r, zd (x / 2))]) qS)))
open Go.RowKit
open Go.RowKit
class TPtr (P : Program) (t : TypeId) : Prop where
  und : ∃ e, P.underlying t = some (.pointer e)
open Go.RowKit
def inL (l : List Nat) (i : Nat) : Bool := l.any (Nat.beq i)
def InO : List Own → List Own → Prop
  | [], _ => True
  | E :: r, os => E ∈ os ∧ InO r os
theorem InO.get {Es os : List Own} (h : InO Es os) {E : Own} (hE : E ∈ Es) : E ∈ os := by
  induction Es with
  | nil => cases hE
  | cons x r ih =>
    rcases List.mem_cons.1 hE with rfl | hE
    · exact h.1
    · exact ih h.2 hE
structure DoE (P : Program) (E : List Own) (f : Fr) (o : Oper) (os : List Own) (fs : List Fact) (K : Cont) : Prop where
  out : ∃ v, (∀ a : Act, KAt (opReads o.op) f a → ∀ G os fs w, InO E os → Holds G os fs w → (execOp a.eval o).run P w = .ok (.value v) w) ∧ InO E os ∧ K v os fs
def noB : Bool → Bool
  | true => false
  | false => true
def isCallV : Op → Bool
  | .call c => match c.callee with
    | .value _ => true
    | _ => false
  | _ => false
theorem DoK.semD {P : Program} {f : Fr} {os : List Own} {fs : List Fact} {K : Cont} (o : Oper) (hc : isCallV o.op = true)
    (h : DoK P false f o.type os fs K o.op) : ∃ s, (∀ a : Act, KAt (opReads o.op) f a → execOp a.eval o = s) ∧ Dyn P s os fs K := by
  cases hop : o.op <;> simp only [hop, isCallV, Bool.false_eq_true] at hc
  rename_i c
  have hargs : ∀ x, x ∈ c.args.toList → x ∈ o.op.operands.toList := fun x hx => by simp [hop, Op.operands, Call.operands]; exact .inr (by simpa using hx)
  cases hcl : c.callee <;> simp only [hcl, Bool.false_eq_true] at hc
  rw [hop] at h
  simp only [DoK, hcl] at h
  obtain ⟨x, h1, h⟩ := withV_elim h
  obtain ⟨y, h2, h⟩ := withVs_elim h
  refine ⟨_, fun a hk => ?_, h.out⟩
  rw [← hop] at hk
  unfold execOp
  simp only [hop, resolve, hcl, hk.ev (by simp [hop, Op.operands, Call.operands, hcl]) h1, arr_map _ _ _ (hk.evs hargs h2)]
theorem callV_dyn {o : Op} (h : isCallV o = true) : isDyn o = true := by
  cases o <;> simp only [isCallV, Bool.false_eq_true] at h
  rename_i c
  cases hc : c.callee <;> simp only [hc, Bool.false_eq_true] at h
  simp [isDyn, hc]
def andB (b : Bool) (p q : Prop) : Prop :=
  match b with
  | true => p ∧ q
  | false => q
def selE (b : Bool) (p q : Prop) : Prop :=
  match b with
  | true => p
  | false => q
noncomputable def VCE (P : Program) (L : List Oper) (E : List Own) (fl p1 sl : List Nat) (c : List Nat) : Fr → List Own → List Fact → Next1 → Prop :=
  @List.rec Nat (fun _ => Fr → List Own → List Fact → Next1 → Prop) (fun f os fs K => K f os fs)
    (fun i _ ih f os fs K => match nthO L i with
      | some o => selE (inL fl i) (orF (gd L f o.guard) (DoE P E f o os fs fun v os fs => ih (putF f o.dst v) os fs K) False)
        (orF (gd L f o.guard)
          (orV (detv f o.op) (fun v => ih (putF f o.dst v) os fs K) (DoK P (noB (inL sl i)) f o.type os fs (fun v os fs => andB (inL p1 i) (InO E os) (ih (putF f o.dst v) os fs K)) o.op))
          (ih (putF f o.dst undef) os fs K))
      | none => ih f os fs K) c
theorem VCE_cons (P : Program) (L : List Oper) (E : List Own) (fl p1 sl : List Nat) (i : Nat) (c : List Nat) (f : Fr) (os : List Own) (fs : List Fact) (K : Next1) (o : Oper) (ho : L[i]? = some o) :
    VCE P L E fl p1 sl (i :: c) f os fs K = selE (inL fl i) (orF (gd L f o.guard) (DoE P E f o os fs fun v os fs => VCE P L E fl p1 sl c (putF f o.dst v) os fs K) False)
        (orF (gd L f o.guard)
          (orV (detv f o.op) (fun v => VCE P L E fl p1 sl c (putF f o.dst v) os fs K) (DoK P (noB (inL sl i)) f o.type os fs (fun v os fs => andB (inL p1 i) (InO E os) (VCE P L E fl p1 sl c (putF f o.dst v) os fs K)) o.op))
          (VCE P L E fl p1 sl c (putF f o.dst undef) os fs K)) := by
  have h : nthO L i = some o := by rw [nthO_eq, ho]
  show (match nthO L i with
    | some o => _
    | none => _) = _
  rw [h]
  rfl
def pairE (L : List Oper) (tbl fl p1 sl : List Nat) (i : Nat) (oi : Oper) (j : Nat) (oj : Oper) : Bool :=
  !Nat.beq i j && !sameD oi.dst oj.dst && ((!(hits oi.dst (slotsOf L oj) || hits oj.dst (slotsOf L oi) || isDyn oi.op || (isDyn oj.op && inL fl i && !inL p1 j) || ((isSt oj.op || inL sl j) && !isPu oi.op && !inL fl i))) || anc tbl i j)
def pairsE (L : List Oper) (tbl fl p1 sl : List Nat) : List Nat → Bool
  | [] => true
  | i :: r => (match nthO L i with
      | none => false
      | some oi => !hits oi.dst (slotsOf L oi) && !(inL fl i && isDyn oi.op) && !(inL sl i && !isCallV oi.op) && r.all fun j => match nthO L j with
        | some oj => pairE L tbl fl p1 sl i oi j oj
        | none => false) && pairsE L tbl fl p1 sl r
def ordEOK (L : List Oper) (fl p1 sl c : List Nat) : Bool :=
  Nat.beq c.length L.length && (List.range L.length).all (fun i => c.any (Nat.beq i)) && pairsE L (ancs L []) fl p1 sl c
structure CheckedE (L : List Oper) (tbl fl p1 sl : List Nat) (c : List Nat) : Prop where
  nodup : c.Nodup
  all : ∀ i, i ∈ c ↔ i < L.length
  self : ∀ i o, i ∈ c → L[i]? = some o → (∀ t, o.dst = some t → t ∉ slotsOf L o) ∧ (inL fl i = true → isDyn o.op = false) ∧ (inL sl i = true → isCallV o.op = true)
  pair : ∀ pre i post j oi oj, c = pre ++ i :: post → j ∈ post → L[i]? = some oi → L[j]? = some oj →
    (∀ t, oi.dst = some t → oj.dst ≠ some t) ∧ ((∃ t, oi.dst = some t ∧ t ∈ slotsOf L oj) ∨ (∃ t, oj.dst = some t ∧ t ∈ slotsOf L oi) ∨ isDyn oi.op = true ∨ (isDyn oj.op = true ∧ inL fl i = true ∧ inL p1 j = false) ∨ ((isSt oj.op || inL sl j) = true ∧ isPu oi.op = false ∧ inL fl i = false) → anc tbl i j = true)
theorem pairsE_sound {L : List Oper} {tbl fl p1 sl : List Nat} : ∀ {c : List Nat}, pairsE L tbl fl p1 sl c = true →
    c.Nodup ∧ (∀ i, i ∈ c → i < L.length) ∧ (∀ i o, i ∈ c → L[i]? = some o → (∀ t, o.dst = some t → t ∉ slotsOf L o) ∧ (inL fl i = true → isDyn o.op = false) ∧ (inL sl i = true → isCallV o.op = true)) ∧
    ∀ pre i post j oi oj, c = pre ++ i :: post → j ∈ post → L[i]? = some oi → L[j]? = some oj →
      (∀ t, oi.dst = some t → oj.dst ≠ some t) ∧ ((∃ t, oi.dst = some t ∧ t ∈ slotsOf L oj) ∨ (∃ t, oj.dst = some t ∧ t ∈ slotsOf L oi) ∨ isDyn oi.op = true ∨ (isDyn oj.op = true ∧ inL fl i = true ∧ inL p1 j = false) ∨ ((isSt oj.op || inL sl j) = true ∧ isPu oi.op = false ∧ inL fl i = false) → anc tbl i j = true)
  | [], _ => ⟨List.nodup_nil, by simp, by simp, fun pre i post j oi oj h => by simp at h⟩
  | x :: r, h => by
    simp only [pairsE, Bool.and_eq_true] at h
    obtain ⟨h1, h2⟩ := h
    obtain ⟨g1, g2, g3, g4⟩ := pairsE_sound h2
    cases hx : nthO L x with
    | none => simp [hx] at h1
    | some ox =>
      simp only [hx, Bool.and_eq_true] at h1
      obtain ⟨⟨⟨h3, h3'⟩, h3''⟩, h4⟩ := h1
      have hxL : L[x]? = some ox := by rw [← nthO_eq]; exact hx
      have hpair : ∀ j, j ∈ r → ∃ oj, nthO L j = some oj ∧ pairE L tbl fl p1 sl x ox j oj = true := by
        intro j hj
        have := List.all_eq_true.1 h4 j hj
        cases hoj : nthO L j with
        | none => simp [hoj] at this
        | some oj => simp only [hoj] at this; exact ⟨oj, rfl, this⟩
      refine ⟨List.nodup_cons.2 ⟨fun hm => ?_, g1⟩, fun i hi => ?_, fun i o hi ho => ?_, fun pre i post j oi oj hp hj hoi hoj => ?_⟩
      · obtain ⟨oj, _, hp⟩ := hpair x hm
        simp [pairE] at hp
      · rcases List.mem_cons.1 hi with rfl | hi
        · exact (List.getElem?_eq_some_iff.1 hxL).1
        · exact g2 i hi
      · rcases List.mem_cons.1 hi with rfl | hi
        · rw [hxL] at ho
          obtain rfl := Option.some.inj ho
          refine ⟨fun t ht hm => ?_, fun hf => ?_, fun hf => ?_⟩
          · rw [hits_iff.2 ⟨t, ht, hm⟩] at h3
            cases h3
          · rw [hf] at h3'
            cases hd : isDyn ox.op with
            | false => rfl
            | true => rw [hd] at h3'; cases h3'
          · rw [hf] at h3''
            cases hd : isCallV ox.op with
            | true => rfl
            | false => rw [hd] at h3''; cases h3''
        · exact g3 i o hi ho
      · cases pre with
        | nil =>
          simp only [List.nil_append, List.cons.injEq] at hp
          obtain ⟨rfl, rfl⟩ := hp
          obtain ⟨oj', h5, h6⟩ := hpair j hj
          rw [nthO_eq, hoj] at h5
          obtain rfl := Option.some.inj h5
          rw [hxL] at hoi
          obtain rfl := Option.some.inj hoi
          simp only [pairE, Bool.and_eq_true, Bool.or_eq_true, Bool.not_eq_true'] at h6
          obtain ⟨⟨_, h7⟩, h8⟩ := h6
          refine ⟨fun t ht ht' => ?_, fun hc => ?_⟩
          · rw [ht, ht'] at h7; simp [sameD] at h7
          · rcases h8 with h8 | h8
            · exfalso
              simp only [Bool.or_eq_false_iff] at h8
              obtain ⟨⟨⟨⟨q1, q2⟩, q3⟩, q5⟩, q4⟩ := h8
              rcases hc with hc | hc | hc | hc | hc
              · rw [hits_iff.2 hc] at q1; cases q1
              · rw [hits_iff.2 hc] at q2; cases q2
              · rw [hc] at q3; cases q3
              · rw [hc.1, hc.2.1, hc.2.2] at q5; cases q5
              · rw [hc.1, hc.2.1, hc.2.2] at q4; cases q4
            · exact h8
        | cons y pre =>
          simp only [List.cons_append, List.cons.injEq] at hp
          obtain ⟨rfl, rfl⟩ := hp
          exact g4 pre i post j oi oj rfl hj hoi hoj
theorem ordEOK_sound {L : List Oper} {fl p1 sl c : List Nat} (h : ordEOK L fl p1 sl c = true) : CheckedE L (ancs L []) fl p1 sl c := by
  simp only [ordEOK, Bool.and_eq_true] at h
  obtain ⟨⟨_, h2⟩, h3⟩ := h
  obtain ⟨g1, g2, g3, g4⟩ := pairsE_sound h3
  refine ⟨g1, fun i => ⟨g2 i, fun hi => ?_⟩, g3, g4⟩
  have := List.all_eq_true.1 h2 i (by simpa using hi)
  obtain ⟨x, hx, hb⟩ := List.any_eq_true.1 this
  have := Nat.eq_of_beq_eq_true hb
  subst this
  exact hx
def PendE (P : Program) (L : List Oper) (tbl : List Nat) (E : List Own) (f0 : Fr) (vd : List Nat) (val : Nat → Value) (k : Nat) (o : Oper) : Prop :=
  ∃ fk : Fr, (∀ t v, t ∈ slotsOf L o → look fk t = some v → Src L tbl f0 vd val k t v) ∧ gd L fk o.guard = some true ∧
    ∀ a : Act, KAt (opReads o.op) fk a → ∀ G os fs w, InO E os → Holds G os fs w → (execOp a.eval o).run P w = .ok (.value (val k)) w
structure InvE (P : Program) (N : Nat) (L : List Oper) (E : List Own) (fl p1 sl : List Nat) (f0 : Fr) (G : Ctx) (K : Next1) (c : List Nat) (D : Nat → Prop) (vd c' : List Nat) (val : Nat → Value) (vf : Fr) (os : List Own) (fs : List Fact) (a : Act) (w : World) : Prop where
  split : c = vd ++ c'
  sub : ∀ i, D i → i ∈ vd
  clos : ∀ i, D i → ∀ j, Binds .any L j i → D j
  defers : a.defers = []
  size : a.tmps.size = N
  act : ∀ t v, ((∃ j o, D j ∧ L[j]? = some o ∧ o.dst = some t ∧ val j = v) ∨ (look f0 t = some v ∧ ∀ j o, D j → L[j]? = some o → o.dst ≠ some t)) → a.tmps[t]? = some v
  virt : ∀ t v, look vf t = some v → (∃ j o, j ∈ vd ∧ L[j]? = some o ∧ o.dst = some t ∧ val j = v) ∨ (look f0 t = some v ∧ ∀ j o, j ∈ vd → L[j]? = some o → o.dst ≠ some t)
  pend : ∀ k o, k ∈ vd → ¬ D k → L[k]? = some o → inL fl k = false → Pend P L (ancs L []) f0 vd val w k o
  pendE : ∀ k o, k ∈ vd → ¬ D k → L[k]? = some o → inL fl k = true → PendE P L (ancs L []) E f0 vd val k o
  ent : ∀ k, k ∈ vd → ¬ D k → inL fl k = true → InO E os
  st : Holds G os fs w
  vc : VCE P L E fl p1 sl c' vf os fs K
section
variable {P : Program} {N : Nat} {L : List Oper} {E : List Own} {fl p1 sl : List Nat} {f0 : Fr} {G : Ctx} {K : Next1} {c : List Nat}
theorem srcE_next (hc : CheckedE L (ancs L []) fl p1 sl c) {vd c' : List Nat} {k : Nat} {val : Nat → Value} {vf : Fr} {o : Oper} (hs : c = vd ++ k :: c') (ho : L[k]? = some o)
    (virt : ∀ t v, look vf t = some v → (∃ j o, j ∈ vd ∧ L[j]? = some o ∧ o.dst = some t ∧ val j = v) ∨ (look f0 t = some v ∧ ∀ j o, j ∈ vd → L[j]? = some o → o.dst ≠ some t)) :
    ∀ t v, t ∈ slotsOf L o → look vf t = some v → Src L (ancs L []) f0 vd val k t v := by
  intro t v ht hl
  rcases virt t v hl with ⟨j, oj, h1, h2, h3, h4⟩ | ⟨h1, h2⟩
  · left
    refine ⟨j, oj, h1, h2, h3, h4, ?_⟩
    obtain ⟨pre, post, rfl⟩ := List.append_of_mem h1
    exact (hc.pair pre j (post ++ k :: c') k oj o (by rw [hs]; simp) (by simp) h2 ho).2 (.inl ⟨t, h3, ht⟩)
  · right
    refine ⟨h1, fun j oj hj hd => ?_⟩
    have hjc : j ∈ c := (hc.all j).2 (List.getElem?_eq_some_iff.1 hj).1
    rw [hs] at hjc
    rcases List.mem_append.1 hjc with hm | hm
    · exact absurd hd (h2 j oj hm hj)
    · rcases List.mem_cons.1 hm with rfl | hm
      · rw [ho] at hj
        obtain rfl := Option.some.inj hj
        exact absurd ht ((hc.self j o ((hc.all j).2 (List.getElem?_eq_some_iff.1 ho).1) ho).1 t hd)
      · exact (hc.pair vd k c' j o oj hs hm ho hj).2 (.inr (.inl ⟨t, hd, ht⟩))
theorem PendE.keep {tbl : List Nat} {vd : List Nat} {val : Nat → Value} {k : Nat} {o : Oper} {u : Value} {x : Nat} (hx : x ∉ vd) (hk : k ∈ vd) (h : PendE P L tbl E f0 vd val k o) :
    PendE P L tbl E f0 (vd ++ [x]) (setV val x u) k o := by
  have hkx : k ≠ x := fun e => hx (e ▸ hk)
  obtain ⟨fk, h1, h2, h3⟩ := h
  refine ⟨fk, fun t v ht hl => (h1 t v ht hl).keep hx, h2, ?_⟩
  simpa [setV, hkx] using h3
theorem virtE_keep {vd : List Nat} {val : Nat → Value} {vf : Fr} {x : Nat} {o : Oper} {u : Value} (hxvd : x ∉ vd) (ho : L[x]? = some o)
    (virt : ∀ t v, look vf t = some v → (∃ j o, j ∈ vd ∧ L[j]? = some o ∧ o.dst = some t ∧ val j = v) ∨ (look f0 t = some v ∧ ∀ j o, j ∈ vd → L[j]? = some o → o.dst ≠ some t)) :
    ∀ t v, look (putF vf o.dst u) t = some v → (∃ j o, j ∈ vd ++ [x] ∧ L[j]? = some o ∧ o.dst = some t ∧ setV val x u j = v) ∨ (look f0 t = some v ∧ ∀ j o, j ∈ vd ++ [x] → L[j]? = some o → o.dst ≠ some t) := by
  intro t v hl
  have old : look vf t = some v → o.dst ≠ some t → (∃ j o, j ∈ vd ++ [x] ∧ L[j]? = some o ∧ o.dst = some t ∧ setV val x u j = v) ∨ (look f0 t = some v ∧ ∀ j o, j ∈ vd ++ [x] → L[j]? = some o → o.dst ≠ some t) := by
    intro hl hne
    rcases virt t v hl with ⟨j, oj, h1, h2, h3, h4⟩ | ⟨h1, h2⟩
    · refine .inl ⟨j, oj, by simp [h1], h2, h3, ?_⟩
      have : j ≠ x := fun e => hxvd (e ▸ h1)
      simp [setV, this, h4]
    · refine .inr ⟨h1, fun j oj hj hjo => ?_⟩
      rcases List.mem_append.1 hj with hj | hj
      · exact h2 j oj hj hjo
      · simp only [List.mem_singleton] at hj
        subst hj
        rw [ho] at hjo
        obtain rfl := Option.some.inj hjo
        exact hne
  cases hd : o.dst with
  | none => rw [hd] at hl; exact old hl (by rw [hd]; simp)
  | some d =>
    rw [hd] at hl
    simp only [putF, look] at hl
    cases hb : Nat.beq d t with
    | true =>
      have := Nat.eq_of_beq_eq_true hb
      subst this
      simp only [hb, Option.some.injEq] at hl
      exact .inl ⟨x, o, by simp, ho, hd, by simp [setV, hl]⟩
    | false =>
      simp only [hb] at hl
      exact old hl (by rw [hd]; intro e; simp only [Option.some.injEq] at e; subst e; simp at hb)
theorem virtE_step (hc : CheckedE L (ancs L []) fl p1 sl c) {D : Nat → Prop} {vd c' : List Nat} {k : Nat} {val : Nat → Value} {vf : Fr} {os : List Own} {fs : List Fact} {a : Act} {w : World} {o : Oper}
    (h : InvE P N L E fl p1 sl f0 G K c D vd (k :: c') val vf os fs a w) (ho : L[k]? = some o) (hdyn : isDyn o.op = false) (hp1 : inL p1 k = false) :
    ∃ val' vf' fs', InvE P N L E fl p1 sl f0 G K c D (vd ++ [k]) c' val' vf' os fs' a w := by
  have hnod := hc.nodup
  rw [h.split, List.nodup_append] at hnod
  have hk : k ∉ vd := fun hm => hnod.2.2 k hm k (by simp) rfl
  have src := srcE_next hc h.split ho h.virt
  have hvc := h.vc
  rw [VCE_cons _ _ _ _ _ _ _ _ _ _ _ _ _ ho] at hvc
  have fin : ∀ (u : Value) (fs' : List Fact), Holds G os fs' w → VCE P L E fl p1 sl c' (putF vf o.dst u) os fs' K →
      (inL fl k = false → (gd L vf o.guard = some false ∧ u = undef) ∨ (gd L vf o.guard = some true ∧ ∀ (a : Act) (w' : World), KAt (opReads o.op) vf a → (isPu o.op = true ∨ Below w.heap.size w w') → (execOp a.eval o).run P w' = .ok (.value u) w')) →
      (inL fl k = true → InO E os ∧ gd L vf o.guard = some true ∧ ∀ a : Act, KAt (opReads o.op) vf a → ∀ G os fs w, InO E os → Holds G os fs w → (execOp a.eval o).run P w = .ok (.value u) w) →
      ∃ val' vf' fs', InvE P N L E fl p1 sl f0 G K c D (vd ++ [k]) c' val' vf' os fs' a w := by
    intro u fs' hst hv hp hpE
    refine ⟨setV val k u, putF vf o.dst u, fs', by rw [h.split]; simp, fun i hi => by simp [h.sub i hi], h.clos, h.defers, h.size, ?_, virtE_keep hk ho h.virt, ?_, ?_, ?_, hst, hv⟩
    · intro t v ht
      refine h.act t v ?_
      rcases ht with ⟨j, oj, h1, h2, h3, h4⟩ | ht
      · have : j ≠ k := fun e => hk (e ▸ h.sub j h1)
        exact .inl ⟨j, oj, h1, h2, h3, by simpa [setV, this] using h4⟩
      · exact .inr ht
    · intro x ox hx hnD hox hfl
      rcases List.mem_append.1 hx with hx | hx
      · exact (h.pend x ox hx hnD hox hfl).keep hk hx (.inr (Below.refl _ _))
      · simp only [List.mem_singleton] at hx
        subst hx
        rw [ho] at hox
        obtain rfl := Option.some.inj hox
        refine ⟨hdyn, vf, fun t v ht hl => (src t v ht hl).keep hk, ?_⟩
        rcases hp hfl with ⟨h1, h2⟩ | ⟨h1, h2⟩
        · exact .inl ⟨h1, by simp [setV, h2]⟩
        · exact .inr ⟨h1, fun a w' ha hb => by simpa [setV] using h2 a w' ha hb⟩
    · intro x ox hx hnD hox hfl
      rcases List.mem_append.1 hx with hx | hx
      · exact (h.pendE x ox hx hnD hox hfl).keep hk hx
      · simp only [List.mem_singleton] at hx
        subst hx
        rw [ho] at hox
        obtain rfl := Option.some.inj hox
        obtain ⟨_, h1, h2⟩ := hpE hfl
        exact ⟨vf, fun t v ht hl => (src t v ht hl).keep hk, h1, by simpa [setV] using h2⟩
    · intro x hx hnD hfl
      rcases List.mem_append.1 hx with hx | hx
      · exact h.ent x hx hnD hfl
      · simp only [List.mem_singleton] at hx
        subst hx
        exact (hpE hfl).1
  have hsk : inL sl k = false := by
    cases e : inL sl k with
    | false => rfl
    | true =>
      have := callV_dyn ((hc.self k o ((hc.all k).2 (List.getElem?_eq_some_iff.1 ho).1) ho).2.2 e)
      rw [hdyn] at this; cases this
  cases hfl : inL fl k with
  | true =>
    simp only [hfl, selE] at hvc
    cases hg : gd L vf o.guard with
    | none => simp only [hg, orF] at hvc
    | some b =>
      cases b with
      | false => simp only [hg, orF] at hvc
      | true =>
        simp only [hg, orF] at hvc
        obtain ⟨v, h1, h2, h3⟩ := hvc.out
        exact fin v fs h.st h3 (fun e => by rw [hfl] at e; cases e) (fun _ => ⟨h2, hg, h1⟩)
  | false =>
  have nE : ∀ {p : Prop}, inL fl k = true → p := fun e => by rw [hfl] at e; cases e
  simp only [hfl, selE] at hvc
  cases hg : gd L vf o.guard with
  | none => simp only [hg, orF] at hvc
  | some b =>
    cases b with
    | false => simp only [hg, orF] at hvc; exact fin undef fs h.st hvc (fun _ => .inl ⟨hg, rfl⟩) nE
    | true =>
      simp only [hg, orF] at hvc
      cases hv : detv vf o.op with
      | some v => simp only [hv, orV] at hvc; exact fin v fs h.st hvc (fun _ => .inr ⟨hg, fun a w' ha _ => detv_soundK P ha hv w'⟩) nE
      | none =>
        simp only [hv, orV, hp1, andB, hsk, noB] at hvc
        cases hfa : isFa o.op with
        | true =>
          obtain ⟨s, hs1, hs2⟩ := fa_sem o hfa hvc
          obtain ⟨v, fs', h1, h2, h3⟩ := hs2 G w h.st
          exact fin v fs' h3 h2 (fun _ => .inr ⟨hg, fun a w' ha _ => by rw [hs1 a ha]; exact h1 w' trivial⟩) nE
        | false =>
        obtain ⟨s, hs⟩ := DoK.sem o hvc
        obtain ⟨v, fs', h1, h2, h3⟩ := hs.det hdyn G w h.st
        exact fin v fs' h3 h2 (fun _ => .inr ⟨hg, fun a w' ha hb => by
          rcases hb with hb | hb
          · exact (pu_dok hb hfa hvc).elim
          · rw [hs.same a ha]; exact h1 w' hb⟩) nE
theorem dst_at {L : List Oper} {N k : Nat} {o : Oper} (hd : dstsOK N L = true) (h : L[k]? = some o) : dstOK N o.dst = true := by
  induction L generalizing k with
  | nil => simp at h
  | cons x r ih =>
    simp only [dstsOK, Bool.and_eq_true] at hd
    cases k with
    | zero => simp only [List.getElem?_cons_zero, Option.some.injEq] at h; subst h; exact hd.1
    | succ k => exact ih hd.2 (by simpa using h)
theorem doE_pend (hc : CheckedE L (ancs L []) fl p1 sl c) (hdst : dstsOK N L = true) {Q : Post} {D : Nat → Prop} {vd c' : List Nat} {k : Nat} {val : Nat → Value} {vf : Fr} {os : List Own} {fs : List Fact} {a : Act} {w : World} {o : Oper} {rest : List Nat}
    (h : InvE P N L E fl p1 sl f0 G K c D vd c' val vf os fs a w) (ho : L[k]? = some o) (hk : k ∈ vd) (hnD : ¬ D k) (hready : ∀ j, Binds .any L j k → D j)
    (next : ∀ a', InvE P N L E fl p1 sl f0 G K c (fun i => D i ∨ i = k) vd c' val vf os fs a' w → wpOps P L.toArray (Qhat N G Q) rest a' w) : wpOps P L.toArray (Qhat N G Q) (k :: rest) a w := by
  have hdk := dst_at hdst ho
  have distinct : ∀ j oj, D j → L[j]? = some oj → ∀ t, o.dst = some t → oj.dst ≠ some t := by
    intro j oj hj hjo t ht
    have hjv := h.sub j hj
    have hne : j ≠ k := fun e => hnD (e ▸ hj)
    have hjc : j ∈ c := by rw [h.split]; simp [hjv]
    have hkc : k ∈ c := by rw [h.split]; simp [hk]
    obtain ⟨pre, post, hp⟩ := List.append_of_mem hjc
    rw [hp] at hkc
    rcases List.mem_append.1 hkc with hm | hm
    · obtain ⟨pre', post', hp'⟩ := List.append_of_mem hm
      exact (hc.pair pre' k (post' ++ j :: post) j o oj (by rw [hp, hp']; simp) (by simp) ho hjo).1 t ht
    · rcases List.mem_cons.1 hm with hm | hm
      · exact absurd hm.symm hne
      · intro hjt
        exact (hc.pair pre j post k oj o hp hm hjo ho).1 t hjt ht
  have inv' : InvE P N L E fl p1 sl f0 G K c (fun i => D i ∨ i = k) vd c' val vf os fs (a.put o.dst (val k)) w := by
    refine ⟨h.split, fun i hi => hi.elim (h.sub i) (fun e => e ▸ hk), fun i hi j hj => ?_, ?_, ?_, act_put hdk h.size ho distinct h.act, h.virt, fun x ox hx hnx => h.pend x ox hx (fun hx' => hnx (.inl hx')), fun x ox hx hnx => h.pendE x ox hx (fun hx' => hnx (.inl hx')), fun x hx hnx => h.ent x hx (fun hx' => hnx (.inl hx')), h.st, h.vc⟩
    · rcases hi with hi | rfl
      · exact .inl (h.clos i hi j hj)
      · exact .inl (hready j hj)
    · cases hd : o.dst <;> simp [Act.put, h.defers]
    · cases hd : o.dst <;> simp [Act.put, h.size]
  have ho' : L.toArray[k]? = some o := by simpa using ho
  simp only [wpOps, ho']
  cases hfl : inL fl k with
  | true =>
    obtain ⟨fk, hsrc, hg, hrun⟩ := h.pendE k o hk hnD ho hfl
    have hkat : KAt (slotsOf L o) fk a := kat_of_src h.clos hnD hready h.act hsrc
    have hkat' : KAt (opReads o.op) fk a := fun t v ht => hkat t v (List.mem_append_left _ ht)
    rw [gd_soundK hkat hg]
    simp only [if_true]
    left
    unfold Oper.wp
    rw [hrun a hkat' G os fs w (h.ent k hk hnD hfl) h.st]
    exact next _ inv'
  | false =>
  obtain ⟨_, fk, hsrc, hcase⟩ := h.pend k o hk hnD ho hfl
  have hkat : KAt (slotsOf L o) fk a := kat_of_src h.clos hnD hready h.act hsrc
  have hkat' : KAt (opReads o.op) fk a := fun t v ht => hkat t v (List.mem_append_left _ ht)
  rcases hcase with ⟨h1, h2⟩ | ⟨h1, h2⟩
  · rw [gd_soundK hkat h1]
    simp only [Bool.false_eq_true, if_false]
    rw [← h2]
    exact next _ inv'
  · rw [gd_soundK hkat h1]
    simp only [if_true]
    left
    unfold Oper.wp
    rw [h2 a w hkat' (.inr (Below.refl _ _))]
    exact next _ inv'
theorem doE_dyn (hc : CheckedE L (ancs L []) fl p1 sl c) (hdst : dstsOK N L = true) {Q : Post} {D : Nat → Prop} {vd c' : List Nat} {k : Nat} {val : Nat → Value} {vf : Fr} {os : List Own} {fs : List Fact} {a : Act} {w : World} {o : Oper} {rest : List Nat}
    (h : InvE P N L E fl p1 sl f0 G K c D vd (k :: c') val vf os fs a w) (ho : L[k]? = some o) (hdyn : isDyn o.op = true) (hnD : ¬ D k) (hready : ∀ j, Binds .any L j k → D j)
    (next : ∀ val' vf' os' fs' a' w', InvE P N L E fl p1 sl f0 G K c (fun i => D i ∨ i = k) (vd ++ [k]) c' val' vf' os' fs' a' w' → wpOps P L.toArray (Qhat N G Q) rest a' w') : wpOps P L.toArray (Qhat N G Q) (k :: rest) a w := by
  have hdk := dst_at hdst ho
  have hnod := hc.nodup
  rw [h.split, List.nodup_append] at hnod
  have hk : k ∉ vd := fun hm => hnod.2.2 k hm k (by simp) rfl
  have src := srcE_next hc h.split ho h.virt
  have hkat : KAt (slotsOf L o) vf a := kat_of_src h.clos hnD hready h.act src
  have hkat' : KAt (opReads o.op) vf a := fun t v ht => hkat t v (List.mem_append_left _ ht)
  have distinct : ∀ j oj, D j → L[j]? = some oj → ∀ t, o.dst = some t → oj.dst ≠ some t := by
    intro j oj hj hjo t ht hjt
    obtain ⟨pre, post, hp⟩ := List.append_of_mem (h.sub j hj)
    exact (hc.pair pre j (post ++ k :: c') k oj o (by rw [h.split, hp]; simp) (by simp) hjo ho).1 t hjt ht
  have hfk : inL fl k = false := by
    cases e : inL fl k with
    | false => rfl
    | true =>
      have := (hc.self k o ((hc.all k).2 (List.getElem?_eq_some_iff.1 ho).1) ho).2.1 e
      rw [hdyn] at this; cases this
  have hvc := h.vc
  rw [VCE_cons _ _ _ _ _ _ _ _ _ _ _ _ _ ho] at hvc
  simp only [hfk, selE] at hvc
  have early : ∀ x, x ∈ vd → ¬ D x → inL fl x = true → inL p1 k = true := fun x hx hnx hfx => by
    cases e : inL p1 k with
    | true => rfl
    | false =>
      exfalso
      obtain ⟨pre, post, hp⟩ := List.append_of_mem hx
      have hxc : x < L.length := (hc.all x).1 (by rw [h.split]; simp [hx])
      have := (hc.pair pre x (post ++ k :: c') k L[x] o (by rw [h.split, hp]; simp) (by simp) (by simp [hxc]) ho).2 (.inr (.inr (.inr (.inl ⟨hdyn, hfx, e⟩))))
      exact hnx ((anc_tc this).closed h.clos hready)
  have inv' : ∀ (u : Value) (os' : List Own) (fs' : List Fact) (w' : World), Holds G os' fs' w' → VCE P L E fl p1 sl c' (putF vf o.dst u) os' fs' K → ((∀ i o, i ∈ vd → L[i]? = some o → D i ∨ isPu o.op = true ∨ inL fl i = true) ∨ Below w.heap.size w w') →
      ((∃ x, x ∈ vd ∧ ¬ D x ∧ inL fl x = true) → InO E os') →
      InvE P N L E fl p1 sl f0 G K c (fun i => D i ∨ i = k) (vd ++ [k]) c' (setV val k u) (putF vf o.dst u) os' fs' (a.put o.dst u) w' := by
    intro u os' fs' w' hst hv hpd hE
    have hset : setV val k u k = u := by simp [setV]
    have old : ∀ x, x ∈ vd ++ [k] → ¬ (D x ∨ x = k) → x ∈ vd ∧ ¬ D x := fun x hx hnx => by
      refine ⟨?_, fun hd => hnx (.inl hd)⟩
      rcases List.mem_append.1 hx with hx | hx
      · exact hx
      · exact absurd (.inr (by simpa using hx)) hnx
    refine ⟨by rw [h.split]; simp, fun i hi => ?_, fun i hi j hj => ?_, ?_, ?_, ?_, virtE_keep hk ho h.virt, fun x ox hx hnx hox hfx => ?_, fun x ox hx hnx hox hfx => ?_, fun x hx hnx hfx => ?_, hst, hv⟩
    · rcases hi with hi | rfl
      · simp [h.sub i hi]
      · simp
    · rcases hi with hi | rfl
      · exact .inl (h.clos i hi j hj)
      · exact .inl (hready j hj)
    · cases hd : o.dst <;> simp [Act.put, h.defers]
    · cases hd : o.dst <;> simp [Act.put, h.size]
    · have := act_put (val := setV val k u) (f0 := f0) (D := D) hdk h.size ho distinct (fun t v ht => h.act t v (by
        rcases ht with ⟨j, oj, h1, h2, h3, h4⟩ | ht
        · have : j ≠ k := fun e => hnD (e ▸ h1)
          exact .inl ⟨j, oj, h1, h2, h3, by simpa [setV, this] using h4⟩
        · exact .inr ht))
      rw [hset] at this
      exact this
    · obtain ⟨hxv, hnx'⟩ := old x hx hnx
      rcases hpd with hpd | hb
      · rcases hpd x ox hxv hox with h1 | h1 | h1
        · exact absurd h1 hnx'
        · exact (h.pend x ox hxv hnx' hox hfx).keep hk hxv (.inl h1)
        · rw [hfx] at h1; cases h1
      · exact (h.pend x ox hxv hnx' hox hfx).keep hk hxv (.inr hb)
    · obtain ⟨hxv, hnx'⟩ := old x hx hnx
      exact (h.pendE x ox hxv hnx' hox hfx).keep hk hxv
    · obtain ⟨hxv, hnx'⟩ := old x hx hnx
      exact hE ⟨x, hxv, hnx', hfx⟩
  have still : (∃ x, x ∈ vd ∧ ¬ D x ∧ inL fl x = true) → InO E os := fun ⟨x, h1, h2, h3⟩ => h.ent x h1 h2 h3
  have ho' : L.toArray[k]? = some o := by simpa using ho
  simp only [wpOps, ho']
  cases hg : gd L vf o.guard with
  | none => simp only [hg, orF] at hvc
  | some b =>
    rw [gd_soundK hkat hg]
    cases b with
    | false =>
      simp only [hg, orF] at hvc
      simp only [Bool.false_eq_true, if_false]
      exact next _ _ _ _ _ _ (inv' undef os fs w h.st hvc (.inr (Below.refl _ _)) still)
    | true =>
      simp only [hg, orF] at hvc
      simp only [if_true]
      left
      unfold Oper.wp
      cases hv : detv vf o.op with
      | some v =>
        simp only [hv, orV] at hvc
        rw [detv_soundK P hkat' hv w]
        exact next _ _ _ _ _ _ (inv' v os fs w h.st hvc (.inr (Below.refl _ _)) still)
      | none =>
        simp only [hv, orV] at hvc
        have main : Comes1 P (fun v w' => ((∀ i o, i ∈ vd → L[i]? = some o → D i ∨ isPu o.op = true ∨ inL fl i = true) ∨ Below w.heap.size w w') ∧ ∃ os' fs', andB (inL p1 k) (InO E os') (VCE P L E fl p1 sl c' (putF vf o.dst v) os' fs' K) ∧ Holds G os' fs' w') ((execOp a.eval o).run P w) := by
          have stl : (isSt o.op || inL sl k) = true → ∀ i oi, i ∈ vd → L[i]? = some oi → D i ∨ isPu oi.op = true ∨ inL fl i = true := fun hst i oi hi hoi => by
            cases hpu : isPu oi.op with
            | true => exact .inr (.inl rfl)
            | false =>
            cases hfi : inL fl i with
            | true => exact .inr (.inr rfl)
            | false =>
            left
            obtain ⟨pre, post, hp⟩ := List.append_of_mem hi
            exact (anc_tc ((hc.pair pre i (post ++ k :: c') k oi o (by rw [h.split, hp]; simp) (by simp) hoi ho).2 (.inr (.inr (.inr (.inr ⟨hst, hpu, hfi⟩)))))).closed h.clos hready
          cases hsk : inL sl k with
          | true =>
            simp only [hsk, noB] at hvc
            obtain ⟨s, hs1, hs2⟩ := DoK.semD o ((hc.self k o ((hc.all k).2 (List.getElem?_eq_some_iff.1 ho).1) ho).2.2 hsk) hvc
            rw [hs1 a hkat']
            exact (hs2 G w h.st).mono fun v w' h2 => ⟨.inl (stl (by rw [hsk, Bool.or_true])), h2⟩
          | false =>
          simp only [hsk, noB] at hvc
          obtain ⟨s, hs⟩ := DoK.sem o hvc
          rw [hs.same a hkat']
          cases hst : isSt o.op with
          | false => exact (hs.grw hst G w h.st).mono fun v w' ⟨h1, h2⟩ => ⟨.inr h1, h2⟩
          | true => exact (hs.dyn G w h.st).mono fun v w' h2 => ⟨.inl (stl (by rw [hst, Bool.true_or])), h2⟩
        have fin : ∀ (v : Value) (w' : World), (((∀ i o, i ∈ vd → L[i]? = some o → D i ∨ isPu o.op = true ∨ inL fl i = true) ∨ Below w.heap.size w w') ∧ ∃ os' fs', andB (inL p1 k) (InO E os') (VCE P L E fl p1 sl c' (putF vf o.dst v) os' fs' K) ∧ Holds G os' fs' w') →
            ∃ os' fs', InvE P N L E fl p1 sl f0 G K c (fun i => D i ∨ i = k) (vd ++ [k]) c' (setV val k v) (putF vf o.dst v) os' fs' (a.put o.dst v) w' := by
          rintro v w' ⟨h1, os', fs', h2, h3⟩
          cases hp1 : inL p1 k with
          | true =>
            rw [hp1] at h2
            exact ⟨os', fs', inv' v os' fs' w' h3 h2.2 h1 fun _ => h2.1⟩
          | false =>
            rw [hp1] at h2
            refine ⟨os', fs', inv' v os' fs' w' h3 h2 h1 fun ⟨x, g1, g2, g3⟩ => ?_⟩
            have := early x g1 g2 g3
            rw [hp1] at this; cases this
        generalize (execOp a.eval o).run P w = res at main
        match res, main with
        | .ok (.value v) w', hm =>
          obtain ⟨os', fs', hi⟩ := fin v w' hm
          exact next _ _ _ _ _ _ hi
        | .ok .skip w', hm =>
          obtain ⟨os', fs', hi⟩ := fin undef w' hm
          exact next _ _ _ _ _ _ hi
        | .ok (.enter g args) w', hcall =>
          refine Calls.mono hcall ?_
          rintro e w'' ⟨v, rfl, hm⟩
          obtain ⟨os', fs', hi⟩ := fin v w'' hm
          exact next _ _ _ _ _ _ hi
theorem catchE_up (hc : CheckedE L (ancs L []) fl p1 sl c) : ∀ (pre : List Nat) {D : Nat → Prop} {vd c' : List Nat} {val : Nat → Value} {vf : Fr} {fs : List Fact} {os : List Own} {a : Act} {w : World},
    InvE P N L E fl p1 sl f0 G K c D vd (pre ++ c') val vf os fs a w → (∀ x, x ∈ pre → inL p1 x = false ∧ ∀ o, L[x]? = some o → isDyn o.op = false) →
    ∃ val' vf' fs', InvE P N L E fl p1 sl f0 G K c D (vd ++ pre) c' val' vf' os fs' a w
  | [], D, vd, c', val, vf, fs, os, a, w, h, _ => ⟨val, vf, fs, by simpa using h⟩
  | x :: pre, D, vd, c', val, vf, fs, os, a, w, h, hd => by
    have hx : x < L.length := (hc.all x).1 (by rw [h.split]; simp)
    obtain ⟨val1, vf1, fs1, h1⟩ := virtE_step hc h (show L[x]? = some L[x] by simp [hx]) ((hd x (by simp)).2 _ (by simp [hx])) (hd x (by simp)).1
    obtain ⟨val2, vf2, fs2, h2⟩ := catchE_up hc pre (vd := vd ++ [x]) h1 (fun y hy => hd y (by simp [hy]))
    exact ⟨val2, vf2, fs2, by simpa using h2⟩
theorem simE (hc : CheckedE L (ancs L []) fl p1 sl c) (hp : ∀ x o, inL p1 x = true → L[x]? = some o → isDyn o.op = true) (hdst : dstsOK N L = true) {Q : Post} (hQ : Q .normal = K) : ∀ (l : List Nat) (D : Nat → Prop) {vd c' : List Nat} {val : Nat → Value} {vf : Fr} {os : List Own} {fs : List Fact} {a : Act} {w : World},
    InvE P N L E fl p1 sl f0 G K c D vd c' val vf os fs a w → (∀ i, i < L.length ↔ D i ∨ i ∈ l) → l.Nodup → (∀ i, i ∈ l → ¬ D i) →
    (∀ pre i post, l = pre ++ i :: post → ∀ j, Binds .any L j i → D j ∨ j ∈ pre) → wpOps P L.toArray (Qhat N G Q) l a w
  | [], D, vd, c', val, vf, os, fs, a, w, h, hall, _, _, _ => by
    have hc' : c' = [] := by
      cases c' with
      | nil => rfl
      | cons x r =>
        exfalso
        have hx : x ∈ c := by rw [h.split]; simp
        have := h.sub x (((hall x).1 ((hc.all x).1 hx)).resolve_right (by simp))
        have hnod := hc.nodup
        rw [h.split, List.nodup_append] at hnod
        exact hnod.2.2 x this x (by simp) rfl
    subst hc'
    have hv := h.vc
    refine ⟨vf, os, fs, ⟨h.defers, h.size, fun t v ht => h.act t v ?_⟩, h.st, by rw [hQ]; exact hv⟩
    have hD : ∀ j, j ∈ vd → D j := fun j hj => ((hall j).1 ((hc.all j).1 (by rw [h.split]; simp [hj]))).resolve_right (by simp)
    rcases h.virt t v ht with ⟨j, o, h1, h2, h3, h4⟩ | ⟨h1, h2⟩
    · exact .inl ⟨j, o, hD j h1, h2, h3, h4⟩
    · exact .inr ⟨h1, fun j o hj => h2 j o (h.sub j hj)⟩
  | i :: rest, D, vd, c', val, vf, os, fs, a, w, h, hall, hnod, hdis, hbef => by
    have hi : i < L.length := (hall i).2 (.inr (by simp))
    have ho : L[i]? = some L[i] := by simp [hi]
    have hnD : ¬ D i := hdis i (by simp)
    have hready : ∀ j, Binds .any L j i → D j := fun j hj => (hbef [] i rest rfl j hj).resolve_right (by simp)
    have nx : ∀ {vd c' : List Nat} {val : Nat → Value} {vf : Fr} {os : List Own} {fs : List Fact} {a : Act} {w : World},
        InvE P N L E fl p1 sl f0 G K c (fun x => D x ∨ x = i) vd c' val vf os fs a w → wpOps P L.toArray (Qhat N G Q) rest a w := by
      intro vd c' val vf os fs a w h'
      refine simE hc hp hdst hQ rest (fun x => D x ∨ x = i) h' (fun x => ?_) (List.nodup_cons.1 hnod).2 (fun x hx hx' => ?_) (fun pre x post hp j hj => ?_)
      · rw [hall x, List.mem_cons]
        constructor
        · rintro (h | h | h)
          · exact .inl (.inl h)
          · exact .inl (.inr h)
          · exact .inr h
        · rintro ((h | h) | h)
          · exact .inl h
          · exact .inr (.inl h)
          · exact .inr (.inr h)
      · rcases hx' with hx' | rfl
        · exact hdis x (by simp [hx]) hx'
        · exact (List.nodup_cons.1 hnod).1 hx
      · rcases hbef (i :: pre) x post (by rw [hp]; rfl) j hj with hj' | hj'
        · exact .inl (.inl hj')
        · rcases List.mem_cons.1 hj' with rfl | hj'
          · exact .inl (.inr rfl)
          · exact .inr hj'
    by_cases hiv : i ∈ vd
    · exact doE_pend hc hdst h ho hiv hnD hready fun a' h' => nx h'
    · have hic : i ∈ c := (hc.all i).2 hi
      rw [h.split] at hic
      obtain ⟨pre, post, hpp⟩ := List.append_of_mem ((List.mem_append.1 hic).resolve_left hiv)
      have hpre0 : ∀ x, x ∈ pre → ∀ o, L[x]? = some o → isDyn o.op = false := by
        intro x hx o hox
        cases hd : isDyn o.op with
        | false => rfl
        | true =>
          exfalso
          obtain ⟨p1, p2, hp2⟩ := List.append_of_mem hx
          have := (hc.pair (vd ++ p1) x (p2 ++ i :: post) i o L[i] (by rw [h.split, hpp, hp2]; simp) (by simp) hox ho).2 (.inr (.inr (.inl hd)))
          have hDx := (anc_tc this).closed h.clos hready
          have hxv := h.sub x hDx
          have hn := hc.nodup
          rw [h.split, List.nodup_append] at hn
          exact hn.2.2 x hxv x (by rw [hpp]; simp [hx]) rfl
      have np : ∀ x, x < L.length → (∀ o, L[x]? = some o → isDyn o.op = false) → inL p1 x = false := fun x hx hd => by
        cases e : inL p1 x with
        | false => rfl
        | true =>
          have h1 := hp x L[x] e (by simp [hx])
          rw [hd L[x] (by simp [hx])] at h1; cases h1
      have hpre : ∀ x, x ∈ pre → inL p1 x = false ∧ ∀ o, L[x]? = some o → isDyn o.op = false := fun x hx =>
        ⟨np x ((hc.all x).1 (by rw [h.split, hpp]; simp [hx])) (hpre0 x hx), hpre0 x hx⟩
      rw [hpp] at h
      obtain ⟨val1, vf1, fs1, h1⟩ := catchE_up hc pre h hpre
      cases hdyn : isDyn L[i].op with
      | false =>
        obtain ⟨val2, vf2, fs2, h2⟩ := virtE_step hc h1 ho hdyn (np i hi fun o hox => by rw [ho] at hox; obtain rfl := Option.some.inj hox; exact hdyn)
        exact doE_pend hc hdst h2 ho (by simp) hnD hready fun a' h' => nx h'
      | true => exact doE_dyn hc hdst h1 ho hdyn hnD hready fun _ _ _ _ _ _ h' => nx h'
end
def p1OK (L : List Oper) (p1 : List Nat) : Bool :=
  p1.all fun x => match nthO L x with
    | some o => isDyn o.op
    | none => true
theorem ordE_go {P : Program} {N : Nat} {L : List Oper} {f : Fr} {os : List Own} {fs : List Fact} {K : Next1} (E : List Own) (fl p1 sl c : List Nat) (hok : ordEOK L fl p1 sl c = true) (hp1 : p1OK L p1 = true) (hdst : dstsOK N L = true)
    (k : VCE P L E fl p1 sl c f os fs K) : OrdK P N L f os fs K := by
  refine ⟨fun G Q hQ l hord a w hk hw => ?_⟩
  have hc := ordEOK_sound hok
  have hp : ∀ x o, inL p1 x = true → L[x]? = some o → isDyn o.op = true := fun x o h ho => by
    obtain ⟨y, hy, hb⟩ := List.any_eq_true.1 h
    have := Nat.eq_of_beq_eq_true hb
    subst this
    have h2 := List.all_eq_true.1 hp1 x hy
    rw [nthO_eq, ho] at h2
    exact h2
  refine simE (E := E) (f0 := f) hc hp hdst hQ _ (fun _ => False) (vd := []) (c' := c) (val := fun _ => undef) (vf := f) (os := os) (fs := fs) ?_ (fun i => by simpa using (hord.all i).symm) hord.nodup (fun _ _ h => h) (fun pre i post hp j hj => .inr (hord.before pre i post hp j hj))
  exact ⟨rfl, fun _ h => h.elim, fun _ h => h.elim, hk.defers, hk.size, fun t v ht => hk.holds t v (by
    rcases ht with ⟨_, _, h, _⟩ | h
    · exact h.elim
    · exact h.1), fun t v ht => .inr ⟨ht, fun j o hj => by simp at hj⟩, fun k o hk => by simp at hk, fun k o hk => by simp at hk, fun k hk => by simp at hk, hw, k⟩
open Go.RowKit
structure WOk (s : List Int) (ls : List (List Int)) (lo hi : Int) (U : List Int) (t : Nat) (J : Nat) : Prop where
  zU : szR 81 U
  lU : U.length ≤ 6
  nU : Nm U
  eU : U ≠ []
  cnt : cnt ls lo hi = t + (if pev s lo = 0 then 1 else 0) - (if pev s hi = 0 then 1 else 0)
  u0 : U.getD 0 0 = pev s lo
  u1 : pev U 1 = pev s hi
  cc : ∃ m, 1 ≤ m ∧ CC U m 0 0 t ∧ UOk U m J (82 + J + 2)
  jJ : J ≤ 100000000
theorem wok {s : List Int} {ls : List (List Int)} {lo hi : Int} (hl : ChL ls) (h0 : ls.getD 0 [] = s) (hln : ls.length ≤ 100) (zs : szR 38 s) (l6 : s.length ≤ 6) (hsd : 0 < dg s) (h : lo < hi) (zlo : -73786976294838206464 ≤ lo) (zhi : hi ≤ 73786976294838206464) :
    ∃ t J, WOk s ls lo hi (pstr (hi - lo) (pshi lo s)) t J := by
  obtain ⟨m, hm⟩ : ∃ m : Nat, hi - lo = m := ⟨(hi - lo).toNat, by omega⟩
  have hhi : hi = lo + m := by omega
  have hmz : sz (m : Int) 2 := by
    unfold sz
    have e : (18446744073709551616 : Nat) ^ 2 = 18446744073709551616 * 18446744073709551616 := by decide
    rw [e]; omega
  have zlo2 : sz lo 2 := by
    unfold sz
    have e : (18446744073709551616 : Nat) ^ 2 = 18446744073709551616 * 18446744073709551616 := by decide
    rw [e]; omega
  have hrc := rc_eq hl.ch h0 (Int.le_of_lt h)
  have h1 := sV_le (fun i => ls.getD i []) (ls.length - 1) lo
  obtain ⟨z75, l6', J, t, hcc, hrt, hok, hJ⟩ := within_ok (a := lo) (m := m) hl.ch h0 (by omega) zs l6 hsd zlo2 hmz (by rw [← hhi, hrc]; omega)
  refine ⟨t, J, ?_⟩
  rw [hm]
  refine ⟨z75, l6', pstr_nm _ _, within_ne (by omega) hsd, ?_, ?_, ?_, ⟨m, by omega, hcc, hok⟩, hJ⟩
  · rw [cnt_rc hl (Int.le_of_lt h), h0, hhi, hrt]
  · rw [← ev_at0, within_ev]; simp
  · rw [within_ev, hhi]; simp
theorem WOk.none {s U : List Int} {ls : List (List Int)} {lo hi : Int} {t J : Nat} (h : WOk s ls lo hi U t J) (hv : vs 0 (pshi 1 U.reverse) = 0) (hs : pev s lo ≠ 0) : Go.Proofs.YtgpcepcbdpigfaaGreat.cnt ls lo hi = 0 := by
  obtain ⟨m, hm, hcc, _⟩ := h.cc
  have hT : ∀ x, pev (pshi 1 U.reverse) x = pev (tay ((2 ^ 0 : Nat) : Int) ((0 : Nat) : Int) U).reverse (x + 1) := fun x => by rw [tay_id h.nU]; exact ev_pshi _ _ _
  have h2 := CC.desc (j := 0) (i := ((0 : Nat) : Int)) hm h.nU h.eU hT (by omega)
  rw [tay_id h.nU, hv, h.u1] at h2
  have h3 := hcc.unique h2
  rw [h.cnt, if_neg hs, h3]
  split <;> simp
theorem WOk.unit {s U : List Int} {ls : List (List Int)} {lo hi : Int} {t J : Nat} (h : WOk s ls lo hi U t J) (v : Value) :
    Meets Tryz.prog 40 [v] [(v, vd U)] (fun r os fs => os = [] ∧ fs = [] ∧ ∃ c : Nat, r = .int .i64 (c : Int) ∧ c ≤ 1000 ∧ Go.Proofs.YtgpcepcbdpigfaaGreat.cnt ls lo hi = c + if pev s lo = 0 then 1 else 0) := by
  obtain ⟨m, hm, hcc, hok⟩ := h.cc
  have hJ := h.jJ
  have := unit_meets hok (by omega) (by omega) J 0 0 (by omega) (by decide) v
  rw [tay_id h.nU, h.u1] at this
  refine this.mono fun r os fs ⟨h1, h2, c, h3, h4, h5⟩ => ⟨h1, h2, c, h3, h4, ?_⟩
  have h6 := hcc.unique h5
  rw [h.cnt, h6]
  split <;> simp <;> omega
structure Wk (ls : List (List Int)) (LO b : Int) (O : List Int) : Prop where
  fl : Flr ls LO b O
  le : LO ≤ b
  few : (O.length : Int) ≤ Go.Proofs.YtgpcepcbdpigfaaGreat.cnt ls LO b
theorem Wk.skip {ls : List (List Int)} (hl : ChL ls) {LO b c : Int} {O : List Int} (h : Wk ls LO b O) (hbc : b ≤ c) (h0 : cnt ls b c = 0) : Wk ls LO c O :=
  ⟨h.fl.skip hl hbc h0, by have := h.le; omega, by have := cnt_add ls LO b c; have := h.few; omega⟩
theorem cnt_self (ls : List (List Int)) (x : Int) : cnt ls x x = 0 := by have := cnt_add ls x x x; omega
theorem Wk.one {ls : List (List Int)} (hl : ChL ls) {LO b : Int} {O : List Int} (h : Wk ls LO b O) (h1 : 0 < cnt ls b (b + 1)) : Wk ls LO (b + 1) (O ++ [b]) :=
  ⟨h.fl.one hl h.le (Int.le_refl _) (Int.le_refl _) h1 (cnt_self ls b) (cnt_self ls (b + 1)), by have := h.le; omega, by
    have := cnt_add ls LO b (b + 1); have := h.few
    rw [List.length_append, List.length_singleton]; omega⟩
theorem Wk.short {ls : List (List Int)} (hln : ls.length ≤ 100) {LO b : Int} {O : List Int} (h : Wk ls LO b O) : O.length ≤ 200 := by
  have h1 := h.few
  have h2 := tns_le ls LO
  unfold cnt manyV at h1
  have h3 : (if pev (ls.getD 0 []) LO = 0 then (1 : Int) else 0) ≤ 1 := by split <;> decide
  have h4 : (0 : Int) ≤ if pev (ls.getD 0 []) b = 0 then 1 else 0 := by split <;> decide
  omega
theorem set_nth : ∀ {os : List Own} {pos : Nat} {o : Own}, nthOwn os pos = some o → setOwn os pos o = os
  | [], pos, o, h => by simp [nthOwn] at h
  | a :: os, 0, o, h => by simp [nthOwn] at h; simp [setOwn, h]
  | a :: os, pos + 1, o, h => by
    have := set_nth (os := os) (pos := pos) (o := o) h
    simp [setOwn, this]
set_option maxHeartbeats 8000000 in
theorem wkc_all {s : List Int} {ls : List (List Int)} (hl : ChL ls) (h0 : ls.getD 0 [] = s) (hln : ls.length ≤ 100) (zs : szR 38 s) (l6 : s.length ≤ 6) (hsd : 0 < dg s) (LO : Int) (sv : Value) :
    ∀ (d : Nat) {xl : Bool × List Nat} {lo hi : Int} {pos : Nat} {lv hv ov : Value} {O : List Int} {os : List Own} {fs : List Fact} {K : Cont}, jv xl = lo → Lim xl.2 → xl.2.length ≤ 2 → hi - lo ≤ d → lo < hi → -73786976294838206464 ≤ lo → hi ≤ 73786976294838206464 →
      nthOwn os pos = some (ownL 2 J z0 ov (O.map cn)) → isSl ov → Wk ls LO lo O →
      (∀ r O', isSl r → Wk ls LO hi O' → K r (setOwn os pos (ownL 2 J z0 r (O'.map cn))) ((sv, vd s) :: (lv, J xl) :: (hv, zd hi) :: fs)) →
      CallK Tryz.prog false (.func (.func 50) #[] #[]) [sv, lv, hv, ov] os ((sv, vd s) :: (lv, J xl) :: (hv, zd hi) :: fs) K := by
  intro d
  induction d with
  | zero => intro xl lo hi; intros; omega
  | succ d ih =>
    intro xl lo hi pos lv hv ov O os fs K hxe hxl hx1 hd hlt zlo zhi hon hs hF kk
    have hOl := hF.short hln
    have kk0 : Wk ls LO hi O → K ov os ((sv, vd s) :: (lv, J xl) :: (hv, zd hi) :: fs) := fun h => by
      have := kk ov O hs h
      rwa [set_nth hon] at this
    obtain ⟨t, J', W⟩ := wok hl h0 hln zs l6 hsd hlt zlo zhi
    have z2 : ∀ z : Int, -73786976294838206464 ≤ z → z ≤ 73786976294838206465 → sz z 2 := fun z h1 h2 => by
      unfold sz
      have e : (18446744073709551616 : Nat) ^ 2 = 18446744073709551616 * 18446744073709551616 := by decide
      rw [e]; omega
    have zhi2 : sz hi 2 := z2 hi (by omega) (by omega)
    have zlo2 : sz lo 2 := z2 lo zlo (by omega)
    have zlo1 : sz (lo + 1) 2 := z2 (lo + 1) (by omega) (by omega)
    have zsum : sz (lo + hi) 3 := by
      have := sz_sub zlo2 zhi2.neg
      rwa [Int.sub_neg] at this
    have hadd := fun d1 d2 => rAddJZ d1 d2 xl 1 1 hxl (by omega) (sm5 1 (by decide)) (by decide)
    rw [hxe] at hadd
    have hsum := fun d1 d2 => rAddJZ d1 d2 xl hi 2 hxl (by omega) zhi2 (by decide)
    rw [hxe] at hsum
    have hshr := fun y => rShr_one y (lo + hi) 3 zsum (by decide)
    have hnorm : ∀ y, Meets Tryz.prog 62 [y] [(y, J xl)] (fun r os fs => os = [] ∧ fs = [(r, zd lo)]) := fun y => by
      have : Meets Tryz.prog 62 [y] [(y, J xl)] (fun r os fs => os = [] ∧ fs = [(r, zd (jv xl))]) := rZNorm_meets y xl.1 xl.2 hxl (by omega)
      rw [hxe] at this
      exact this
    have hmid : lo + 1 < hi → lo < (lo + hi) / 2 ∧ (lo + hi) / 2 < hi ∧ sz ((lo + hi) / 2) 2 := fun h => ⟨by omega, by omega, z2 _ (by omega) (by omega)⟩
    have hpos : pev s lo = 0 → 0 < cnt ls lo (lo + 1) := fun h => by
      have := hl.nn (show lo < lo + 1 by omega)
      rw [h0, if_pos h] at this
      omega
    have hwi : ∀ y1 y2, Meets Tryz.prog 41 [sv, y1, y2] [(sv, vd s), (y1, J xl), (y2, zd hi)] (fun r os fs => os = [] ∧ fs = [(r, vd (pstr (hi - lo) (pshi lo s)))]) := fun y1 y2 => by
      have := within_meets sv y1 y2 (s.map cn) xl (cn hi) 38 2 zs.fit (by decide) hxl (by omega) (Lim_lims _) zhi2.len (by decide) (by rw [List.length_map]; omega) (by decide)
      rw [vv_cn, jv_cn, hxe] at this
      exact this
    generalize pstr (hi - lo) (pshi lo s) = U at *
    generalize (lo + hi) / 2 = mid at *
    have hUl := List.length_pos_iff.2 W.eU
    have hU6 := W.lU
    have hat : ∀ y, Meets Tryz.prog 78 [y, .int .i64 ((0 : Nat) : Int)] [(y, vd U)] (fun r os fs => os = [] ∧ fs = [(r, zd (pev s lo))]) := fun y => by
      have := rAtN y (U.map cn) (W.zU.fit.mono (by decide)) 0
      rw [vv_cn, W.u0] at this
      exact this
    have hsg := fun y => rSignZ y (pev s lo) 81 (by rw [← W.u0]; exact W.zU.get 0) (by decide)
    have hmay := fun y => may_meets y U 81 W.zU (by decide) (by decide) W.nU hUl (by omega)
    have hnone := W.none
    have hun := W.unit
    generalize vs 0 (pshi 1 U.reverse) = n at *
    refine call_inline Tryz.func50 (by kernel_rfl) rfl (by kernel_rfl) (Nat.le_of_ble_eq_true rfl) ?_
    refine box_rule (Reads.fact (d := J xl) qM) fun lb hlb => ?_
    refine box_rule (Reads.fact (d := zd hi) qM) fun ub hub => ?_
    refine load_box (d := J xl) 1 rfl hlb rfl (load_J _) fun a1 => ?_
    refine load_box (d := zd hi) 0 rfl hub rfl (load_I _ _) fun a2 => ?_
    refine call_fn (hwi a1 a2) (Seals.refl _ _) qS ?_
    rintro uv _ _ ⟨rfl, rfl⟩
    refine call_fn (hat uv) (Seals.refl _ _) qS ?_
    rintro a3 _ _ ⟨rfl, rfl⟩
    refine call_fn (hsg a3) (Seals.refl _ _) qS ?_
    rintro _ _ _ ⟨rfl, rfl, rfl⟩
    refine cmp_split _ rfl (fun hz => ?_) (fun hz => ?_)
    · replace hz := sgn0.1 hz
      refine call_fn (hmay uv) (Seals.refl _ _) qS ?_
      rintro _ _ _ ⟨rfl, rfl, rfl⟩
      refine cmp_split _ rfl (fun hm => ?_) (fun hm => ?_)
      ·
        refine call_fn (rOf_meets 1 (by decide) (by decide)) (Seals.refl _ _) qS ?_
        rintro o1 _ _ ⟨rfl, rfl⟩
        refine alloc_rule (d := I false []) fun nb hnb => ?_
        refine store_box (d := zd 1) 0 rfl hnb rfl (by kernel_rfl) (Reads.fact (v := o1) qM) ?_
        refine draw_rule [0, 1, 3, 2, 4, 5] [0, 1, 2, 3, 4, 5] (by kernel_rfl) (by kernel_rfl) ?_
        refine load_box (d := J xl) 2 rfl hlb rfl (load_J _) fun d1 => ?_
        refine load_box (d := zd 1) 0 rfl hnb rfl (load_I _ _) fun d2 => ?_
        refine load_box (d := zd hi) 1 rfl hub rfl (load_I _ _) fun d3 => ?_
        refine call_fn (hadd d1 d2) (Seals.refl _ _) qS ?_
        rintro d4 _ _ ⟨rfl, rfl⟩
        refine call_fn (rCmpZ6 d4 d3 (lo + 1) hi 2 zlo1 zhi2 (by decide)) (Seals.refl _ _) qS ?_
        rintro _ _ _ ⟨rfl, rfl, rfl⟩
        refine cmp_split _ rfl (fun hone => ?_) (fun hone => ?_)
        · have he : hi = lo + 1 := by have := sgn0.1 hone; omega
          have hcp := hpos hz
          refine load_box (d := J xl) 2 rfl hlb rfl (load_J _) fun c1 => ?_
          refine call_fn (hnorm c1) (Seals.refl _ _) qS ?_
          rintro c2 _ _ ⟨rfl, rfl⟩
          refine lit_L (size := 2) J z0 (cn lo) (by decide) (Reads.fact (v := c2) (d := zd lo) qM) rfl fun c3 => ?_
          refine append_L (pos + 3) hon hs (Knw.fact (v := c3) qM) (by simp; omega) (by simp; omega) fun w hw => ?_
          rw [map_snoc cn]
          exact fin (kk w (O ++ [lo]) hw (by rw [he]; exact hF.one hl hcp)) (Seals.trans (Seals.drop 0 _ _) (Seals.trans (Seals.drop 0 _ _) (Seals.trans (Seals.drop 0 _ _) (Seals.sub qD))))
        ·
          have he : lo + 1 < hi := by
            rcases Int.lt_or_eq_of_le (show lo + 1 ≤ hi by omega) with g | g
            · exact g
            · exact absurd (sgn0.2 (show lo + 1 - hi = 0 by omega)) hone
          refine load_box (d := J xl) 2 rfl hlb rfl (load_J _) fun m1 => ?_
          refine load_box (d := zd hi) 1 rfl hub rfl (load_I _ _) fun m2 => ?_
          refine call_fn (hsum m1 m2) (Seals.refl _ _) qS ?_
          rintro m3 _ _ ⟨rfl, rfl⟩
          refine call_fn (hshr m3) (Seals.refl _ _) qS ?_
          rintro m4 _ _ ⟨rfl, rfl⟩
          refine alloc_rule (d := I false []) fun mb hmb => ?_
          refine store_box (d := zd mid) 0 rfl hmb rfl (by kernel_rfl) (Reads.fact (v := m4) qM) ?_
          refine draw_ord [0, 1, 2, 3, 4, 5, 6, 7, 8, 9] (by kernel_rfl) ?_
          refine ord_split 1 7 (by kernel_rfl) (by kernel_rfl) (by kernel_rfl) ?_ ?_
          · refine ord_split 2 7 (by kernel_rfl) (by kernel_rfl) (by kernel_rfl) ?_ ?_
            · refine ordE_go [] [] [] [7, 8] [0, 1, 2, 3, 4, 5, 6, 7, 8, 9] (by kernel_rfl) (by kernel_rfl) (by kernel_rfl) ?_
              refine load_box (d := zd mid) 0 rfl hmb rfl (load_I _ _) fun e1 => ?_
              refine load_box (d := zd hi) 2 rfl hub rfl (load_I _ _) fun e2 => ?_
              refine load_box (d := J xl) 3 rfl hlb rfl (load_J _) fun e3 => ?_
              refine load_box (d := zd mid) 0 rfl hmb rfl (load_I _ _) fun e4 => ?_
              refine CallK.pre (Seals.sub (fs' := (sv, vd s) :: (e3, J xl) :: (e4, zd mid) :: _) (Sub.cons qM (Sub.cons qM (Sub.cons qM (fun _ h => h))))) ?_
              refine ih (xl := xl) (lo := lo) (hi := mid) (pos := pos + 4) hxe hxl hx1 (by omega) (hmid he).1 zlo (by have := hmid he; omega) ?_ hs hF fun r1 O1 hr1 hF1 => ?_
              · exact hon
              refine CallK.pre (Seals.sub (fs' := (sv, vd s) :: (e1, zd mid) :: (e2, zd hi) :: _) (Sub.cons qM (Sub.cons qM (Sub.cons qM (fun _ h => h))))) ?_
              refine ih (xl := cn mid) (lo := mid) (hi := hi) (pos := pos + 4) (jv_cn _) (Lim_lims _) (hmid he).2.2.len (by omega) (hmid he).2.1 (by have := hmid he; omega) zhi ?_ hr1 hF1 fun r2 O2 hr2 hF2 => ?_
              · exact nth_set (o := ownL 2 J z0 ov (O.map cn)) hon
              rw [set_set]
              exact fin (kk r2 O2 hr2 hF2) (Seals.trans (Seals.drop 0 _ _) (Seals.trans (Seals.drop 0 _ _) (Seals.trans (Seals.drop 0 _ _) (Seals.trans (Seals.drop 0 _ _) (Seals.sub qD)))))
            · refine ordE_go [] [] [] [7, 8] [0, 1, 3, 4, 5, 6, 7, 2, 8, 9] (by kernel_rfl) (by kernel_rfl) (by kernel_rfl) ?_
              refine load_box (d := zd mid) 0 rfl hmb rfl (load_I _ _) fun e1 => ?_
              refine load_box (d := J xl) 3 rfl hlb rfl (load_J _) fun e3 => ?_
              refine load_box (d := zd mid) 0 rfl hmb rfl (load_I _ _) fun e4 => ?_
              refine CallK.pre (Seals.sub (fs' := (sv, vd s) :: (e3, J xl) :: (e4, zd mid) :: _) (Sub.cons qM (Sub.cons qM (Sub.cons qM (fun _ h => h))))) ?_
              refine ih (xl := xl) (lo := lo) (hi := mid) (pos := pos + 4) hxe hxl hx1 (by omega) (hmid he).1 zlo (by have := hmid he; omega) ?_ hs hF fun r1 O1 hr1 hF1 => ?_
              · exact hon
              refine load_box (d := zd hi) 2 rfl hub rfl (load_I _ _) fun e2 => ?_
              refine CallK.pre (Seals.sub (fs' := (sv, vd s) :: (e1, zd mid) :: (e2, zd hi) :: _) (Sub.cons qM (Sub.cons qM (Sub.cons qM (fun _ h => h))))) ?_
              refine ih (xl := cn mid) (lo := mid) (hi := hi) (pos := pos + 4) (jv_cn _) (Lim_lims _) (hmid he).2.2.len (by omega) (hmid he).2.1 (by have := hmid he; omega) zhi ?_ hr1 hF1 fun r2 O2 hr2 hF2 => ?_
              · exact nth_set (o := ownL 2 J z0 ov (O.map cn)) hon
              rw [set_set]
              exact fin (kk r2 O2 hr2 hF2) (Seals.trans (Seals.drop 0 _ _) (Seals.trans (Seals.drop 0 _ _) (Seals.trans (Seals.drop 0 _ _) (Seals.trans (Seals.drop 0 _ _) (Seals.sub qD)))))
          · refine ord_split 2 7 (by kernel_rfl) (by kernel_rfl) (by kernel_rfl) ?_ ?_
            · refine ordE_go [] [] [] [7, 8] [0, 2, 3, 4, 5, 6, 7, 1, 8, 9] (by kernel_rfl) (by kernel_rfl) (by kernel_rfl) ?_
              refine load_box (d := zd hi) 2 rfl hub rfl (load_I _ _) fun e2 => ?_
              refine load_box (d := J xl) 3 rfl hlb rfl (load_J _) fun e3 => ?_
              refine load_box (d := zd mid) 0 rfl hmb rfl (load_I _ _) fun e4 => ?_
              refine CallK.pre (Seals.sub (fs' := (sv, vd s) :: (e3, J xl) :: (e4, zd mid) :: _) (Sub.cons qM (Sub.cons qM (Sub.cons qM (fun _ h => h))))) ?_
              refine ih (xl := xl) (lo := lo) (hi := mid) (pos := pos + 4) hxe hxl hx1 (by omega) (hmid he).1 zlo (by have := hmid he; omega) ?_ hs hF fun r1 O1 hr1 hF1 => ?_
              · exact hon
              refine load_box (d := zd mid) 0 rfl hmb rfl (load_I _ _) fun e1 => ?_
              refine CallK.pre (Seals.sub (fs' := (sv, vd s) :: (e1, zd mid) :: (e2, zd hi) :: _) (Sub.cons qM (Sub.cons qM (Sub.cons qM (fun _ h => h))))) ?_
              refine ih (xl := cn mid) (lo := mid) (hi := hi) (pos := pos + 4) (jv_cn _) (Lim_lims _) (hmid he).2.2.len (by omega) (hmid he).2.1 (by have := hmid he; omega) zhi ?_ hr1 hF1 fun r2 O2 hr2 hF2 => ?_
              · exact nth_set (o := ownL 2 J z0 ov (O.map cn)) hon
              rw [set_set]
              exact fin (kk r2 O2 hr2 hF2) (Seals.trans (Seals.drop 0 _ _) (Seals.trans (Seals.drop 0 _ _) (Seals.trans (Seals.drop 0 _ _) (Seals.trans (Seals.drop 0 _ _) (Seals.sub qD)))))
            · refine ordE_go [] [] [] [7, 8] [0, 3, 4, 5, 6, 7, 1, 2, 8, 9] (by kernel_rfl) (by kernel_rfl) (by kernel_rfl) ?_
              refine load_box (d := J xl) 3 rfl hlb rfl (load_J _) fun e3 => ?_
              refine load_box (d := zd mid) 0 rfl hmb rfl (load_I _ _) fun e4 => ?_
              refine CallK.pre (Seals.sub (fs' := (sv, vd s) :: (e3, J xl) :: (e4, zd mid) :: _) (Sub.cons qM (Sub.cons qM (Sub.cons qM (fun _ h => h))))) ?_
              refine ih (xl := xl) (lo := lo) (hi := mid) (pos := pos + 4) hxe hxl hx1 (by omega) (hmid he).1 zlo (by have := hmid he; omega) ?_ hs hF fun r1 O1 hr1 hF1 => ?_
              · exact hon
              refine load_box (d := zd mid) 0 rfl hmb rfl (load_I _ _) fun e1 => ?_
              refine load_box (d := zd hi) 2 rfl hub rfl (load_I _ _) fun e2 => ?_
              refine CallK.pre (Seals.sub (fs' := (sv, vd s) :: (e1, zd mid) :: (e2, zd hi) :: _) (Sub.cons qM (Sub.cons qM (Sub.cons qM (fun _ h => h))))) ?_
              refine ih (xl := cn mid) (lo := mid) (hi := hi) (pos := pos + 4) (jv_cn _) (Lim_lims _) (hmid he).2.2.len (by omega) (hmid he).2.1 (by have := hmid he; omega) zhi ?_ hr1 hF1 fun r2 O2 hr2 hF2 => ?_
              · exact nth_set (o := ownL 2 J z0 ov (O.map cn)) hon
              rw [set_set]
              exact fin (kk r2 O2 hr2 hF2) (Seals.trans (Seals.drop 0 _ _) (Seals.trans (Seals.drop 0 _ _) (Seals.trans (Seals.drop 0 _ _) (Seals.trans (Seals.drop 0 _ _) (Seals.sub qD)))))
      ·
        refine call_fn (rOf_meets 1 (by decide) (by decide)) (Seals.refl _ _) qS ?_
        rintro o1 _ _ ⟨rfl, rfl⟩
        refine alloc_rule (d := I false []) fun nb hnb => ?_
        refine store_box (d := zd 1) 0 rfl hnb rfl (by kernel_rfl) (Reads.fact (v := o1) qM) ?_
        refine draw_rule [0, 1, 3, 2, 4, 5] [0, 1, 2, 3, 4, 5] (by kernel_rfl) (by kernel_rfl) ?_
        refine load_box (d := J xl) 2 rfl hlb rfl (load_J _) fun d1 => ?_
        refine load_box (d := zd 1) 0 rfl hnb rfl (load_I _ _) fun d2 => ?_
        refine load_box (d := zd hi) 1 rfl hub rfl (load_I _ _) fun d3 => ?_
        refine call_fn (hadd d1 d2) (Seals.refl _ _) qS ?_
        rintro d4 _ _ ⟨rfl, rfl⟩
        refine call_fn (rCmpZ6 d4 d3 (lo + 1) hi 2 zlo1 zhi2 (by decide)) (Seals.refl _ _) qS ?_
        rintro _ _ _ ⟨rfl, rfl, rfl⟩
        refine cmp_split _ rfl (fun hone => ?_) (fun hone => ?_)
        · have he : hi = lo + 1 := by have := sgn0.1 hone; omega
          have hcp := hpos hz
          refine load_box (d := J xl) 2 rfl hlb rfl (load_J _) fun c1 => ?_
          refine call_fn (hnorm c1) (Seals.refl _ _) qS ?_
          rintro c2 _ _ ⟨rfl, rfl⟩
          refine lit_L (size := 2) J z0 (cn lo) (by decide) (Reads.fact (v := c2) (d := zd lo) qM) rfl fun c3 => ?_
          refine append_L (pos + 3) hon hs (Knw.fact (v := c3) qM) (by simp; omega) (by simp; omega) fun w hw => ?_
          rw [map_snoc cn]
          exact fin (kk w (O ++ [lo]) hw (by rw [he]; exact hF.one hl hcp)) (Seals.trans (Seals.drop 0 _ _) (Seals.trans (Seals.drop 0 _ _) (Seals.trans (Seals.drop 0 _ _) (Seals.sub qD))))
        ·
          have he : lo + 1 < hi := by
            rcases Int.lt_or_eq_of_le (show lo + 1 ≤ hi by omega) with g | g
            · exact g
            · exact absurd (sgn0.2 (show lo + 1 - hi = 0 by omega)) hone
          refine load_box (d := J xl) 2 rfl hlb rfl (load_J _) fun m1 => ?_
          refine load_box (d := zd hi) 1 rfl hub rfl (load_I _ _) fun m2 => ?_
          refine call_fn (hsum m1 m2) (Seals.refl _ _) qS ?_
          rintro m3 _ _ ⟨rfl, rfl⟩
          refine call_fn (hshr m3) (Seals.refl _ _) qS ?_
          rintro m4 _ _ ⟨rfl, rfl⟩
          refine alloc_rule (d := I false []) fun mb hmb => ?_
          refine store_box (d := zd mid) 0 rfl hmb rfl (by kernel_rfl) (Reads.fact (v := m4) qM) ?_
          refine draw_ord [0, 1, 2, 3, 4, 5, 6, 7, 8, 9] (by kernel_rfl) ?_
          refine ord_split 1 7 (by kernel_rfl) (by kernel_rfl) (by kernel_rfl) ?_ ?_
          · refine ord_split 2 7 (by kernel_rfl) (by kernel_rfl) (by kernel_rfl) ?_ ?_
            · refine ordE_go [] [] [] [7, 8] [0, 1, 2, 3, 4, 5, 6, 7, 8, 9] (by kernel_rfl) (by kernel_rfl) (by kernel_rfl) ?_
              refine load_box (d := zd mid) 0 rfl hmb rfl (load_I _ _) fun e1 => ?_
              refine load_box (d := zd hi) 2 rfl hub rfl (load_I _ _) fun e2 => ?_
              refine load_box (d := J xl) 3 rfl hlb rfl (load_J _) fun e3 => ?_
              refine load_box (d := zd mid) 0 rfl hmb rfl (load_I _ _) fun e4 => ?_
              refine CallK.pre (Seals.sub (fs' := (sv, vd s) :: (e3, J xl) :: (e4, zd mid) :: _) (Sub.cons qM (Sub.cons qM (Sub.cons qM (fun _ h => h))))) ?_
              refine ih (xl := xl) (lo := lo) (hi := mid) (pos := pos + 4) hxe hxl hx1 (by omega) (hmid he).1 zlo (by have := hmid he; omega) ?_ hs hF fun r1 O1 hr1 hF1 => ?_
              · exact hon
              refine CallK.pre (Seals.sub (fs' := (sv, vd s) :: (e1, zd mid) :: (e2, zd hi) :: _) (Sub.cons qM (Sub.cons qM (Sub.cons qM (fun _ h => h))))) ?_
              refine ih (xl := cn mid) (lo := mid) (hi := hi) (pos := pos + 4) (jv_cn _) (Lim_lims _) (hmid he).2.2.len (by omega) (hmid he).2.1 (by have := hmid he; omega) zhi ?_ hr1 hF1 fun r2 O2 hr2 hF2 => ?_
              · exact nth_set (o := ownL 2 J z0 ov (O.map cn)) hon
              rw [set_set]
              exact fin (kk r2 O2 hr2 hF2) (Seals.trans (Seals.drop 0 _ _) (Seals.trans (Seals.drop 0 _ _) (Seals.trans (Seals.drop 0 _ _) (Seals.trans (Seals.drop 0 _ _) (Seals.sub qD)))))
            · refine ordE_go [] [] [] [7, 8] [0, 1, 3, 4, 5, 6, 7, 2, 8, 9] (by kernel_rfl) (by kernel_rfl) (by kernel_rfl) ?_
              refine load_box (d := zd mid) 0 rfl hmb rfl (load_I _ _) fun e1 => ?_
              refine load_box (d := J xl) 3 rfl hlb rfl (load_J _) fun e3 => ?_
              refine load_box (d := zd mid) 0 rfl hmb rfl (load_I _ _) fun e4 => ?_
              refine CallK.pre (Seals.sub (fs' := (sv, vd s) :: (e3, J xl) :: (e4, zd mid) :: _) (Sub.cons qM (Sub.cons qM (Sub.cons qM (fun _ h => h))))) ?_
              refine ih (xl := xl) (lo := lo) (hi := mid) (pos := pos + 4) hxe hxl hx1 (by omega) (hmid he).1 zlo (by have := hmid he; omega) ?_ hs hF fun r1 O1 hr1 hF1 => ?_
              · exact hon
              refine load_box (d := zd hi) 2 rfl hub rfl (load_I _ _) fun e2 => ?_
              refine CallK.pre (Seals.sub (fs' := (sv, vd s) :: (e1, zd mid) :: (e2, zd hi) :: _) (Sub.cons qM (Sub.cons qM (Sub.cons qM (fun _ h => h))))) ?_
              refine ih (xl := cn mid) (lo := mid) (hi := hi) (pos := pos + 4) (jv_cn _) (Lim_lims _) (hmid he).2.2.len (by omega) (hmid he).2.1 (by have := hmid he; omega) zhi ?_ hr1 hF1 fun r2 O2 hr2 hF2 => ?_
              · exact nth_set (o := ownL 2 J z0 ov (O.map cn)) hon
              rw [set_set]
              exact fin (kk r2 O2 hr2 hF2) (Seals.trans (Seals.drop 0 _ _) (Seals.trans (Seals.drop 0 _ _) (Seals.trans (Seals.drop 0 _ _) (Seals.trans (Seals.drop 0 _ _) (Seals.sub qD)))))
          · refine ord_split 2 7 (by kernel_rfl) (by kernel_rfl) (by kernel_rfl) ?_ ?_
            · refine ordE_go [] [] [] [7, 8] [0, 2, 3, 4, 5, 6, 7, 1, 8, 9] (by kernel_rfl) (by kernel_rfl) (by kernel_rfl) ?_
              refine load_box (d := zd hi) 2 rfl hub rfl (load_I _ _) fun e2 => ?_
              refine load_box (d := J xl) 3 rfl hlb rfl (load_J _) fun e3 => ?_
              refine load_box (d := zd mid) 0 rfl hmb rfl (load_I _ _) fun e4 => ?_
              refine CallK.pre (Seals.sub (fs' := (sv, vd s) :: (e3, J xl) :: (e4, zd mid) :: _) (Sub.cons qM (Sub.cons qM (Sub.cons qM (fun _ h => h))))) ?_
              refine ih (xl := xl) (lo := lo) (hi := mid) (pos := pos + 4) hxe hxl hx1 (by omega) (hmid he).1 zlo (by have := hmid he; omega) ?_ hs hF fun r1 O1 hr1 hF1 => ?_
              · exact hon
              refine load_box (d := zd mid) 0 rfl hmb rfl (load_I _ _) fun e1 => ?_
              refine CallK.pre (Seals.sub (fs' := (sv, vd s) :: (e1, zd mid) :: (e2, zd hi) :: _) (Sub.cons qM (Sub.cons qM (Sub.cons qM (fun _ h => h))))) ?_
              refine ih (xl := cn mid) (lo := mid) (hi := hi) (pos := pos + 4) (jv_cn _) (Lim_lims _) (hmid he).2.2.len (by omega) (hmid he).2.1 (by have := hmid he; omega) zhi ?_ hr1 hF1 fun r2 O2 hr2 hF2 => ?_
              · exact nth_set (o := ownL 2 J z0 ov (O.map cn)) hon
              rw [set_set]
              exact fin (kk r2 O2 hr2 hF2) (Seals.trans (Seals.drop 0 _ _) (Seals.trans (Seals.drop 0 _ _) (Seals.trans (Seals.drop 0 _ _) (Seals.trans (Seals.drop 0 _ _) (Seals.sub qD)))))
            · refine ordE_go [] [] [] [7, 8] [0, 3, 4, 5, 6, 7, 1, 2, 8, 9] (by kernel_rfl) (by kernel_rfl) (by kernel_rfl) ?_
              refine load_box (d := J xl) 3 rfl hlb rfl (load_J _) fun e3 => ?_
              refine load_box (d := zd mid) 0 rfl hmb rfl (load_I _ _) fun e4 => ?_
              refine CallK.pre (Seals.sub (fs' := (sv, vd s) :: (e3, J xl) :: (e4, zd mid) :: _) (Sub.cons qM (Sub.cons qM (Sub.cons qM (fun _ h => h))))) ?_
              refine ih (xl := xl) (lo := lo) (hi := mid) (pos := pos + 4) hxe hxl hx1 (by omega) (hmid he).1 zlo (by have := hmid he; omega) ?_ hs hF fun r1 O1 hr1 hF1 => ?_
              · exact hon
              refine load_box (d := zd mid) 0 rfl hmb rfl (load_I _ _) fun e1 => ?_
              refine load_box (d := zd hi) 2 rfl hub rfl (load_I _ _) fun e2 => ?_
              refine CallK.pre (Seals.sub (fs' := (sv, vd s) :: (e1, zd mid) :: (e2, zd hi) :: _) (Sub.cons qM (Sub.cons qM (Sub.cons qM (fun _ h => h))))) ?_
              refine ih (xl := cn mid) (lo := mid) (hi := hi) (pos := pos + 4) (jv_cn _) (Lim_lims _) (hmid he).2.2.len (by omega) (hmid he).2.1 (by have := hmid he; omega) zhi ?_ hr1 hF1 fun r2 O2 hr2 hF2 => ?_
              · exact nth_set (o := ownL 2 J z0 ov (O.map cn)) hon
              rw [set_set]
              exact fin (kk r2 O2 hr2 hF2) (Seals.trans (Seals.drop 0 _ _) (Seals.trans (Seals.drop 0 _ _) (Seals.trans (Seals.drop 0 _ _) (Seals.trans (Seals.drop 0 _ _) (Seals.sub qD)))))
    · replace hz : pev s lo ≠ 0 := fun h => hz (sgn0.2 h)
      refine call_fn (hmay uv) (Seals.refl _ _) qS ?_
      rintro _ _ _ ⟨rfl, rfl, rfl⟩
      refine cmp_split _ rfl (fun hm => ?_) (fun hm => ?_)
      · exact fin (kk0 (hF.skip hl (by omega) (hnone (by omega) hz))) (Seals.trans (Seals.drop 0 _ _) (Seals.trans (Seals.drop 0 _ _) (Seals.sub qD)))
      ·
        refine call_fn (rOf_meets 1 (by decide) (by decide)) (Seals.refl _ _) qS ?_
        rintro o1 _ _ ⟨rfl, rfl⟩
        refine alloc_rule (d := I false []) fun nb hnb => ?_
        refine store_box (d := zd 1) 0 rfl hnb rfl (by kernel_rfl) (Reads.fact (v := o1) qM) ?_
        refine draw_rule [0, 1, 3, 2, 4, 5] [0, 1, 2, 3, 4, 5] (by kernel_rfl) (by kernel_rfl) ?_
        refine load_box (d := J xl) 2 rfl hlb rfl (load_J _) fun d1 => ?_
        refine load_box (d := zd 1) 0 rfl hnb rfl (load_I _ _) fun d2 => ?_
        refine load_box (d := zd hi) 1 rfl hub rfl (load_I _ _) fun d3 => ?_
        refine call_fn (hadd d1 d2) (Seals.refl _ _) qS ?_
        rintro d4 _ _ ⟨rfl, rfl⟩
        refine call_fn (rCmpZ6 d4 d3 (lo + 1) hi 2 zlo1 zhi2 (by decide)) (Seals.refl _ _) qS ?_
        rintro _ _ _ ⟨rfl, rfl, rfl⟩
        refine cmp_split _ rfl (fun hone => ?_) (fun hone => ?_)
        · have he : hi = lo + 1 := by have := sgn0.1 hone; omega
          refine call_fn (hun uv) (Seals.refl _ _) qS ?_
          rintro _ _ _ ⟨rfl, rfl, c, rfl, hc1, hc2⟩
          rw [if_neg hz] at hc2
          refine cmp_split _ rfl (fun hgt => ?_) (fun hgt => ?_)
          · have hcp : 0 < cnt ls lo (lo + 1) := by rw [← he, hc2]; omega
            refine load_box (d := J xl) 2 rfl hlb rfl (load_J _) fun c1 => ?_
            refine call_fn (hnorm c1) (Seals.refl _ _) qS ?_
            rintro c2 _ _ ⟨rfl, rfl⟩
            refine lit_L (size := 2) J z0 (cn lo) (by decide) (Reads.fact (v := c2) (d := zd lo) qM) rfl fun c3 => ?_
            refine append_L (pos + 3) hon hs (Knw.fact (v := c3) qM) (by simp; omega) (by simp; omega) fun w hw => ?_
            rw [map_snoc cn]
            exact fin (kk w (O ++ [lo]) hw (by rw [he]; exact hF.one hl hcp)) (Seals.trans (Seals.drop 0 _ _) (Seals.trans (Seals.drop 0 _ _) (Seals.trans (Seals.drop 0 _ _) (Seals.sub qD))))
          · exact fin (kk0 (hF.skip hl (by omega) (by rw [hc2]; omega))) (Seals.trans (Seals.drop 0 _ _) (Seals.trans (Seals.drop 0 _ _) (Seals.trans (Seals.drop 0 _ _) (Seals.sub qD))))
        ·
          have he : lo + 1 < hi := by
            rcases Int.lt_or_eq_of_le (show lo + 1 ≤ hi by omega) with g | g
            · exact g
            · exact absurd (sgn0.2 (show lo + 1 - hi = 0 by omega)) hone
          refine load_box (d := J xl) 2 rfl hlb rfl (load_J _) fun m1 => ?_
          refine load_box (d := zd hi) 1 rfl hub rfl (load_I _ _) fun m2 => ?_
          refine call_fn (hsum m1 m2) (Seals.refl _ _) qS ?_
          rintro m3 _ _ ⟨rfl, rfl⟩
          refine call_fn (hshr m3) (Seals.refl _ _) qS ?_
          rintro m4 _ _ ⟨rfl, rfl⟩
          refine alloc_rule (d := I false []) fun mb hmb => ?_
          refine store_box (d := zd mid) 0 rfl hmb rfl (by kernel_rfl) (Reads.fact (v := m4) qM) ?_
          refine draw_ord [0, 1, 2, 3, 4, 5, 6, 7, 8, 9] (by kernel_rfl) ?_
          refine ord_split 1 7 (by kernel_rfl) (by kernel_rfl) (by kernel_rfl) ?_ ?_
          · refine ord_split 2 7 (by kernel_rfl) (by kernel_rfl) (by kernel_rfl) ?_ ?_
            · refine ordE_go [] [] [] [7, 8] [0, 1, 2, 3, 4, 5, 6, 7, 8, 9] (by kernel_rfl) (by kernel_rfl) (by kernel_rfl) ?_
              refine load_box (d := zd mid) 0 rfl hmb rfl (load_I _ _) fun e1 => ?_
              refine load_box (d := zd hi) 2 rfl hub rfl (load_I _ _) fun e2 => ?_
              refine load_box (d := J xl) 3 rfl hlb rfl (load_J _) fun e3 => ?_
              refine load_box (d := zd mid) 0 rfl hmb rfl (load_I _ _) fun e4 => ?_
              refine CallK.pre (Seals.sub (fs' := (sv, vd s) :: (e3, J xl) :: (e4, zd mid) :: _) (Sub.cons qM (Sub.cons qM (Sub.cons qM (fun _ h => h))))) ?_
              refine ih (xl := xl) (lo := lo) (hi := mid) (pos := pos + 4) hxe hxl hx1 (by omega) (hmid he).1 zlo (by have := hmid he; omega) ?_ hs hF fun r1 O1 hr1 hF1 => ?_
              · exact hon
              refine CallK.pre (Seals.sub (fs' := (sv, vd s) :: (e1, zd mid) :: (e2, zd hi) :: _) (Sub.cons qM (Sub.cons qM (Sub.cons qM (fun _ h => h))))) ?_
              refine ih (xl := cn mid) (lo := mid) (hi := hi) (pos := pos + 4) (jv_cn _) (Lim_lims _) (hmid he).2.2.len (by omega) (hmid he).2.1 (by have := hmid he; omega) zhi ?_ hr1 hF1 fun r2 O2 hr2 hF2 => ?_
              · exact nth_set (o := ownL 2 J z0 ov (O.map cn)) hon
              rw [set_set]
              exact fin (kk r2 O2 hr2 hF2) (Seals.trans (Seals.drop 0 _ _) (Seals.trans (Seals.drop 0 _ _) (Seals.trans (Seals.drop 0 _ _) (Seals.trans (Seals.drop 0 _ _) (Seals.sub qD)))))
            · refine ordE_go [] [] [] [7, 8] [0, 1, 3, 4, 5, 6, 7, 2, 8, 9] (by kernel_rfl) (by kernel_rfl) (by kernel_rfl) ?_
              refine load_box (d := zd mid) 0 rfl hmb rfl (load_I _ _) fun e1 => ?_
              refine load_box (d := J xl) 3 rfl hlb rfl (load_J _) fun e3 => ?_
              refine load_box (d := zd mid) 0 rfl hmb rfl (load_I _ _) fun e4 => ?_
              refine CallK.pre (Seals.sub (fs' := (sv, vd s) :: (e3, J xl) :: (e4, zd mid) :: _) (Sub.cons qM (Sub.cons qM (Sub.cons qM (fun _ h => h))))) ?_
              refine ih (xl := xl) (lo := lo) (hi := mid) (pos := pos + 4) hxe hxl hx1 (by omega) (hmid he).1 zlo (by have := hmid he; omega) ?_ hs hF fun r1 O1 hr1 hF1 => ?_
              · exact hon
              refine load_box (d := zd hi) 2 rfl hub rfl (load_I _ _) fun e2 => ?_
              refine CallK.pre (Seals.sub (fs' := (sv, vd s) :: (e1, zd mid) :: (e2, zd hi) :: _) (Sub.cons qM (Sub.cons qM (Sub.cons qM (fun _ h => h))))) ?_
              refine ih (xl := cn mid) (lo := mid) (hi := hi) (pos := pos + 4) (jv_cn _) (Lim_lims _) (hmid he).2.2.len (by omega) (hmid he).2.1 (by have := hmid he; omega) zhi ?_ hr1 hF1 fun r2 O2 hr2 hF2 => ?_
              · exact nth_set (o := ownL 2 J z0 ov (O.map cn)) hon
              rw [set_set]
              exact fin (kk r2 O2 hr2 hF2) (Seals.trans (Seals.drop 0 _ _) (Seals.trans (Seals.drop 0 _ _) (Seals.trans (Seals.drop 0 _ _) (Seals.trans (Seals.drop 0 _ _) (Seals.sub qD)))))
          · refine ord_split 2 7 (by kernel_rfl) (by kernel_rfl) (by kernel_rfl) ?_ ?_
            · refine ordE_go [] [] [] [7, 8] [0, 2, 3, 4, 5, 6, 7, 1, 8, 9] (by kernel_rfl) (by kernel_rfl) (by kernel_rfl) ?_
              refine load_box (d := zd hi) 2 rfl hub rfl (load_I _ _) fun e2 => ?_
              refine load_box (d := J xl) 3 rfl hlb rfl (load_J _) fun e3 => ?_
              refine load_box (d := zd mid) 0 rfl hmb rfl (load_I _ _) fun e4 => ?_
              refine CallK.pre (Seals.sub (fs' := (sv, vd s) :: (e3, J xl) :: (e4, zd mid) :: _) (Sub.cons qM (Sub.cons qM (Sub.cons qM (fun _ h => h))))) ?_
              refine ih (xl := xl) (lo := lo) (hi := mid) (pos := pos + 4) hxe hxl hx1 (by omega) (hmid he).1 zlo (by have := hmid he; omega) ?_ hs hF fun r1 O1 hr1 hF1 => ?_
              · exact hon
              refine load_box (d := zd mid) 0 rfl hmb rfl (load_I _ _) fun e1 => ?_
              refine CallK.pre (Seals.sub (fs' := (sv, vd s) :: (e1, zd mid) :: (e2, zd hi) :: _) (Sub.cons qM (Sub.cons qM (Sub.cons qM (fun _ h => h))))) ?_
              refine ih (xl := cn mid) (lo := mid) (hi := hi) (pos := pos + 4) (jv_cn _) (Lim_lims _) (hmid he).2.2.len (by omega) (hmid he).2.1 (by have := hmid he; omega) zhi ?_ hr1 hF1 fun r2 O2 hr2 hF2 => ?_
              · exact nth_set (o := ownL 2 J z0 ov (O.map cn)) hon
              rw [set_set]
              exact fin (kk r2 O2 hr2 hF2) (Seals.trans (Seals.drop 0 _ _) (Seals.trans (Seals.drop 0 _ _) (Seals.trans (Seals.drop 0 _ _) (Seals.trans (Seals.drop 0 _ _) (Seals.sub qD)))))
            · refine ordE_go [] [] [] [7, 8] [0, 3, 4, 5, 6, 7, 1, 2, 8, 9] (by kernel_rfl) (by kernel_rfl) (by kernel_rfl) ?_
              refine load_box (d := J xl) 3 rfl hlb rfl (load_J _) fun e3 => ?_
              refine load_box (d := zd mid) 0 rfl hmb rfl (load_I _ _) fun e4 => ?_
              refine CallK.pre (Seals.sub (fs' := (sv, vd s) :: (e3, J xl) :: (e4, zd mid) :: _) (Sub.cons qM (Sub.cons qM (Sub.cons qM (fun _ h => h))))) ?_
              refine ih (xl := xl) (lo := lo) (hi := mid) (pos := pos + 4) hxe hxl hx1 (by omega) (hmid he).1 zlo (by have := hmid he; omega) ?_ hs hF fun r1 O1 hr1 hF1 => ?_
              · exact hon
              refine load_box (d := zd mid) 0 rfl hmb rfl (load_I _ _) fun e1 => ?_
              refine load_box (d := zd hi) 2 rfl hub rfl (load_I _ _) fun e2 => ?_
              refine CallK.pre (Seals.sub (fs' := (sv, vd s) :: (e1, zd mid) :: (e2, zd hi) :: _) (Sub.cons qM (Sub.cons qM (Sub.cons qM (fun _ h => h))))) ?_
              refine ih (xl := cn mid) (lo := mid) (hi := hi) (pos := pos + 4) (jv_cn _) (Lim_lims _) (hmid he).2.2.len (by omega) (hmid he).2.1 (by have := hmid he; omega) zhi ?_ hr1 hF1 fun r2 O2 hr2 hF2 => ?_
              · exact nth_set (o := ownL 2 J z0 ov (O.map cn)) hon
              rw [set_set]
              exact fin (kk r2 O2 hr2 hF2) (Seals.trans (Seals.drop 0 _ _) (Seals.trans (Seals.drop 0 _ _) (Seals.trans (Seals.drop 0 _ _) (Seals.trans (Seals.drop 0 _ _) (Seals.sub qD)))))
open Go.RowKit
set_option maxHeartbeats 4000000 in
theorem rfFloors_meets (v w u : Value) (p : Row) (x y : Bool × List Nat) (O1 : List Int) (hp : Fit 1 p) (lp : p.length ≤ 6) (hx : Lim x.2) (hxa : x.2.length ≤ 2) (hy : Lim y.2) (hya : y.2.length ≤ 2)
    (hxr : -36893488147419103232 ≤ jv x) (hyr : jv y ≤ 36893488147419103232)
    (hch : 0 < dg (vv p) → jv x ≤ jv y → ∀ s, SimSpec (vv p) s → ∃ ls, ChL ls ∧ ls.getD 0 [] = s ∧ ls.length ≤ 100 ∧ Flr ls (jv x) (jv y + 1) O1) :
    Meets Tryz.prog 18 [v, w, u] [(v, V p), (w, J x), (u, J y)] (fun r os fs => os = [] ∧ ∃ q O e, r = .tuple #[q, .int .i64 e] ∧ (dg (vv p) = 0 ∨ jv y < jv x → O = [] ∧ e = 1) ∧ (0 < dg (vv p) → jv x ≤ jv y → O = O1 ∧ e = 0) ∧ fs = [(q, vd O)]) := by
  have hdeg := rDegreeN v p (hp.mono (by decide))
  have hsim := rSimple_meets v p 1 6 hp (by decide) lp (by decide) (by decide) (by decide)
  have hadd := fun d1 d2 => rAddJZ d1 d2 y 1 1 hy (by omega) (sz_one 1 (by decide)) (by decide)
  refine meets_of_vc Tryz.func18 (by kernel_rfl) rfl (by kernel_rfl) (Nat.le_of_ble_eq_true rfl) ?_
  refine box_rule (Reads.fact (d := J x) qM) fun lb hlb => ?_
  refine box_rule (Reads.fact (d := J y) qM) fun ub hub => ?_
  refine call_fn hdeg (Seals.refl _ _) qS ?_
  rintro _ _ _ ⟨rfl, rfl, rfl⟩
  refine cmp_split _ rfl (fun hd0 => ?_) (fun hd0 => ?_)
  ·
    exact fin ⟨rfl, .slice none 0 0, [], 1, rfl, fun _ => ⟨rfl, rfl⟩, fun h => by omega, rfl⟩ (Seals.trans (Seals.drop 0 _ _) (Seals.trans (Seals.drop 0 _ _) (Seals.cons (Knw.nil 2 _) (Seals.nil _ _))))
  have hd : 0 < dg (vv p) := by omega
  refine load_box (d := J y) 0 rfl hub rfl (load_J _) fun y1 => ?_
  refine load_box (d := J x) 1 rfl hlb rfl (load_J _) fun y2 => ?_
  refine call_fn (rCmpJ6 y1 y2 y x 2 hy hya hx hxa (by decide)) (Seals.refl _ _) qS ?_
  rintro _ _ _ ⟨rfl, rfl, rfl⟩
  refine cmp_split _ rfl (fun hlt => ?_) (fun hlt => ?_)
  · have hlt' := sgn_lt.1 hlt
    exact fin ⟨rfl, .slice none 0 0, [], 1, rfl, fun _ => ⟨rfl, rfl⟩, fun _ h => by omega, rfl⟩ (Seals.trans (Seals.drop 0 _ _) (Seals.trans (Seals.drop 0 _ _) (Seals.cons (Knw.nil 2 _) (Seals.nil _ _))))
  have hxy : jv x ≤ jv y := Int.not_lt.1 fun h => hlt (sgn_lt.2 (by omega))
  refine draw_ord [0, 1, 2, 3, 4, 5, 6, 7, 8] (by kernel_rfl) ?_
  refine ordE_go [] [] [] [6] [0, 2, 3, 1, 4, 5, 6, 7, 8] (by kernel_rfl) (by kernel_rfl) (by kernel_rfl) ?_
  refine load_box (d := J x) 1 rfl hlb rfl (load_J _) fun y3 => ?_
  refine load_box (d := J y) 0 rfl hub rfl (load_J _) fun y4 => ?_
  refine call_fn hsim (Seals.refl _ _) qS ?_
  rintro sv _ _ ⟨rfl, s, hs, zs, rfl⟩
  refine call_fn (rOf_meets 1 (by decide) (by decide)) (Seals.refl _ _) qS ?_
  rintro ov _ _ ⟨rfl, rfl⟩
  refine call_fn (hadd y4 ov) (Seals.refl _ _) qS ?_
  rintro hv _ _ ⟨rfl, rfl⟩
  obtain ⟨ls, hl, h0, hln, hF⟩ := hch hd hxy s hs
  have hsl := (sim_sz (n := 6) hp.szR (by rw [vv_len]; exact lp) (by decide) hs).2
  have hsd : 0 < dg s := by
    obtain ⟨g, _, hg⟩ := hs.ok hd
    exact (Dv.deg (a := s) (b := pprim (vv p)) ⟨g, fun x => by rw [hg]; exact Int.mul_comm _ _⟩ (by rw [pprim_dg]; exact hd)).1
  refine CallK.pre (Seals.own_nil _ _ 2 fun i => J ((([] : List Int).map cn).getD i z0)) ?_
  refine CallK.pre (Seals.sub (fs' := (sv, vd s) :: (y3, J x) :: (hv, zd (jv y + 1)) :: []) (Sub.cons qM (Sub.cons qM (Sub.cons qM (Sub.nil _))))) ?_
  refine wkc_all hl h0 hln (zs.mono (by decide)) hsl hsd (jv x) sv (jv y + 1 - jv x).toNat (xl := x) (lo := jv x) (hi := jv y + 1) (pos := 0) (O := []) rfl hx hxa (by omega) (by omega) (by omega) (by omega) ?_ isSl_nil ⟨⟨trivial, fun t => ⟨fun h => by simp at h, fun h => by omega⟩⟩, Int.le_refl _, by rw [cnt_self]; simp⟩ fun r O hr hW => ?_
  · rfl
  have hOO : O = O1 := hW.fl.up.ext hF.up fun t => by rw [hW.fl.mem, hF.mem]
  refine fin ⟨rfl, r, O, 0, rfl, fun h => by omega, fun _ _ => ⟨hOO, rfl⟩, rfl⟩ ?_
  exact Seals.trans (Seals.toldL hr) (Seals.trans (Seals.drop 0 _ _) (Seals.trans (Seals.drop 0 _ _) (Seals.sub (fs' := [(r, vd O)]) qS)))
theorem rfIn_meets (v w u : Value) (p : Row) (x y : Bool × List Nat) (O1 : List Int) (hp : Fit 1 p) (lp : p.length ≤ 6) (hx : Lim x.2) (hxa : x.2.length ≤ 2) (hy : Lim y.2) (hya : y.2.length ≤ 2)
    (hxr : -36893488147419103232 ≤ jv x) (hyr : jv y ≤ 36893488147419103232) (hfew : O1.length ≤ 1048578) (hin1 : ∀ t, t ∈ O1 → jv x ≤ t ∧ t ≤ jv y)
    (hch : 0 < dg (vv p) → jv x ≤ jv y → ∀ s, SimSpec (vv p) s → ∃ ls, ChL ls ∧ ls.getD 0 [] = s ∧ ls.length ≤ 100 ∧ Flr ls (jv x) (jv y + 1) O1) :
    Meets Tryz.prog 20 [v, w, u] [(v, V p), (w, J x), (u, J y)] (fun r os fs => os = [] ∧ ∃ q Z e, r = .tuple #[q, .int .i64 e] ∧ (dg (vv p) = 0 ∨ jv y < jv x → Z = [] ∧ e = 1) ∧ (0 < dg (vv p) → jv x ≤ jv y → Z = inRt (vv p) O1 ∧ e = 0) ∧ fs = [(q, vd Z)]) := by
  refine meets_of_vc Tryz.func20 (by kernel_rfl) rfl (by kernel_rfl) (Nat.le_of_ble_eq_true rfl) ?_
  refine box_rule (Reads.fact (d := J x) qM) fun bx hbx => ?_
  refine box_rule (Reads.fact (d := J y) qM) fun by' hby => ?_
  refine load_box (d := J x) 1 rfl hbx rfl (load_J _) fun y1 => ?_
  refine load_box (d := J y) 0 rfl hby rfl (load_J _) fun y2 => ?_
  refine call_fn (rfFloors_meets v y1 y2 p x y O1 hp lp hx hxa hy hya hxr hyr hch) (Seals.refl _ _) qS ?_
  rintro _ _ _ ⟨rfl, q, O, e, rfl, hb, hk, rfl⟩
  have hO : (O = [] ∧ (dg (vv p) = 0 ∨ jv y < jv x)) ∨ O = O1 := by
    by_cases g : dg (vv p) = 0 ∨ jv y < jv x
    · exact .inl ⟨(hb g).1, g⟩
    · exact .inr (hk (by omega) (by omega)).1
  have hfewO : O.length ≤ 1048578 := by
    rcases hO with ⟨h, _⟩ | h
    · rw [h]; simp
    · rw [h]; exact hfew
  have hsz : ∀ t, t ∈ O → sz t 2 := fun t ht => by
    rcases hO with ⟨h, _⟩ | h
    · rw [h] at ht; simp at ht
    · rw [h] at ht
      have := hin1 t ht
      exact sz_btw (sz_jv hx hxa) (sz_jv hy hya) this.1 this.2
  have hgm : ∀ i, i < O.length → O.getD i 0 ∈ O := fun i hi => by
    rw [List.getD_eq_getElem?_getD, List.getElem?_eq_getElem hi]; exact List.getElem_mem _
  have hml : (O.map cn).length = O.length := List.length_map _
  have hsg : ∀ y i, i < O.length → Meets Tryz.prog 14 [v, y] [(v, V p), (y, J ((O.map cn).getD i z0))] (fun r os fs => os = [] ∧ fs = [] ∧ r = .int .i64 (pev (vv p) (O.getD i 0)).sign) := fun y i hi => by
    rw [map_cn_get hi]
    have := rfSign_meets v y p (cn (O.getD i 0)) 1 2 hp (Lim_lims _) (hsz _ (hgm i hi)).len (by omega) (by omega)
    rw [jv_cn] at this
    exact this
  refine empty_L (size := 2) (e := 26) J z0 (by decide) fun v0 hv0 => ?_
  refine loop_rule (X := Nat × Value) (fun x => ([(0, v), (8, q), (9, .int .i64 e), (10, x.2), (11, .int .i64 (x.1 : Nat))], [ownL 2 J z0 x.2 ((inRt (vv p) (O.take x.1)).map cn)], [(q, vd O), (v, V p)]))
    (fun x => x.1 ≤ O.length ∧ isSl x.2) (fun x => O.length - x.1) rfl ?_ ?_
  · exact again (0, v0) ⟨Nat.zero_le _, hv0⟩ trivial qF (Seals.trans (Seals.drop 1 _ _) (Seals.trans (Seals.drop 1 _ _) (Seals.sub qS)))
  rintro ⟨i, ov⟩ ⟨hi, hov⟩
  simp only at hi hov ⊢
  refine len_vd (v := q) qM ?_
  refine cmp_split _ rfl (fun hlt => ?_) (fun hlt => ?_)
  · have hin : i < O.length := by omega
    have hil : ((inRt (vv p) (O.take i)).map cn).length ≤ i := by
      rw [List.length_map]
      have := List.length_filter_le (fun t => decide (pev (vv p) t = 0)) (O.take i)
      unfold inRt
      rw [List.length_take] at this; omega
    have hsn := inL_snoc (vv p) hin
    refine index_fact (v := q) qM i rfl (by omega) fun a1 => ?_
    refine load_fact (d := J ((O.map cn).getD i z0)) qM (load_J _) fun a2 => ?_
    refine call_fn (hsg a2 i hin) (Seals.refl _ _) qS ?_
    rintro _ _ _ ⟨rfl, rfl, rfl⟩
    refine cmp_split _ rfl (fun hz => ?_) (fun hz => ?_)
    · rw [if_pos (sgn0.1 hz)] at hsn
      refine index_fact (v := q) qM i rfl (by omega) fun a3 => ?_
      refine load_fact (d := J ((O.map cn).getD i z0)) qM (load_J _) fun a4 => ?_
      refine lit_L (size := 2) J z0 ((O.map cn).getD i z0) (by decide) (Reads.fact (v := a4) qM) rfl fun a5 => ?_
      refine append_L 0 rfl hov (Knw.fact (v := a5) qM) (by simp only [List.length_cons, List.length_nil]; omega) (by simp only [List.length_cons, List.length_nil]; omega) fun ov2 hov2 => ?_
      refine ar rfl qI ?_
      refine again (i + 1, ov2) ⟨by simp only; omega, hov2⟩ (by simp only; omega) qF ?_
      rw [hsn, ← map_snoc, map_cn_get hin]
      exact Seals.sub (fs' := [(q, vd O), (v, V p)]) qS
    · rw [if_neg (fun h => hz (sgn0.2 h))] at hsn
      refine ar rfl qI ?_
      refine again (i + 1, ov) ⟨by simp only; omega, hov⟩ (by simp only; omega) qF ?_
      rw [hsn]
      exact Seals.sub (fs' := [(q, vd O), (v, V p)]) qS
  · have hin : O.length = i := by omega
    subst hin
    refine fin ⟨rfl, ov, inRt (vv p) O, e, rfl, fun h => ?_, fun h1 h2 => ?_, rfl⟩ (Seals.trans (Seals.toldL hov) (Seals.cons ?_ (Seals.nil _ _)))
    · obtain ⟨g1, g2⟩ := hb h
      rw [g1]; exact ⟨rfl, g2⟩
    · obtain ⟨g1, g2⟩ := hk h1 h2
      rw [g1]; exact ⟨rfl, g2⟩
    · exact (Knw.fact (List.Mem.head _)).cast (by rw [List.take_length])
theorem rbnd_le {p : List Int} (h : szR 1 p) : rbnd p ≤ 18446744073709551617 := by
  have h1 := sz_div (y := ((ld p).natAbs : Int)) (mxa_sz (h.take (dg p - 1)))
  unfold rbnd
  unfold sz at h1
  omega
theorem rfAll_meets (v : Value) (p : Row) (O1 : List Int) (hp : Fit 1 p) (lp : p.length ≤ 6) (hfew : O1.length ≤ 1048578) (hin1 : ∀ t, t ∈ O1 → -rbnd (vv p) ≤ t ∧ t ≤ rbnd (vv p))
    (hch : 0 < dg (vv p) → ∀ s, SimSpec (vv p) s → ∃ ls, ChL ls ∧ ls.getD 0 [] = s ∧ ls.length ≤ 100 ∧ Flr ls (-rbnd (vv p)) (rbnd (vv p) + 1) O1) :
    Meets Tryz.prog 22 [v] [(v, V p)] (fun r os fs => os = [] ∧ ∃ q Z e, r = .tuple #[q, .int .i64 e] ∧ (dg (vv p) = 0 → Z = [] ∧ e = 1) ∧ (0 < dg (vv p) → Z = inRt (vv p) O1 ∧ e = 0) ∧ fs = [(q, vd Z)]) := by
  have zb := rbnd_sz hp.szR (by decide)
  have hbl := rbnd_le hp.szR
  have hb2 := rbnd_two (vv p)
  refine meets_of_vc Tryz.func22 (by kernel_rfl) rfl (by kernel_rfl) (Nat.le_of_ble_eq_true rfl) ?_
  refine call_fn (rfBound_meets v p 1 hp (by decide) (by decide) (by omega)) (Seals.refl _ _) qS ?_
  rintro _ _ _ ⟨rfl, b0, rfl, rfl⟩
  refine alloc_rule (d := I false []) fun bb hbb => ?_
  by_cases hz : dg (vv p) = 0
  · rw [if_pos hz, if_pos hz]
    refine store_box (d := zd 0) 0 rfl hbb rfl (by kernel_rfl) (Reads.fact (v := b0) qM) ?_
    refine cmp_true rfl (by decide) ?_
    exact fin ⟨rfl, .slice none 0 0, [], 1, rfl, fun _ => ⟨rfl, rfl⟩, fun h => by omega, rfl⟩ (Seals.trans (Seals.drop 0 _ _) (Seals.cons (Knw.nil 2 _) (Seals.nil _ _)))
  rw [if_neg hz, if_neg hz]
  have hin : ∀ y1 y2, Meets Tryz.prog 20 [v, y1, y2] [(v, V p), (y1, zd (-rbnd (vv p))), (y2, zd (rbnd (vv p)))] (fun r os fs => os = [] ∧ ∃ q Z e, r = .tuple #[q, .int .i64 e] ∧ (dg (vv p) = 0 ∨ rbnd (vv p) < -rbnd (vv p) → Z = [] ∧ e = 1) ∧ (0 < dg (vv p) → -rbnd (vv p) ≤ rbnd (vv p) → Z = inRt (vv p) O1 ∧ e = 0) ∧ fs = [(q, vd Z)]) := fun y1 y2 => by
    have := rfIn_meets v y1 y2 p (cn (-rbnd (vv p))) (cn (rbnd (vv p))) O1 hp lp (Lim_lims _) zb.neg.len (Lim_lims _) zb.len (by rw [jv_cn]; omega) (by rw [jv_cn]; omega) hfew (by simp only [jv_cn]; exact hin1) (by simp only [jv_cn]; exact fun h _ => hch h)
    simp only [jv_cn] at this
    exact this
  have hneg := fun y => rNegZ y (rbnd (vv p)) 2 zb (by decide)
  generalize rbnd (vv p) = B at *
  refine store_box (d := zd B) 0 rfl hbb rfl (by kernel_rfl) (Reads.fact (v := b0) qM) ?_
  refine cmp_false rfl (by decide) ?_
  refine draw_rule [0, 1, 3, 2, 4, 5, 6, 7, 8] [0, 1, 2, 3, 4, 5, 6, 7, 8] (by kernel_rfl) (by kernel_rfl) ?_
  refine load_box (d := zd B) 0 rfl hbb rfl (load_I _ _) fun y1 => ?_
  refine load_box (d := zd B) 0 rfl hbb rfl (load_I _ _) fun y2 => ?_
  refine call_fn (hneg y1) (Seals.refl _ _) qS ?_
  rintro y3 _ _ ⟨rfl, rfl⟩
  refine call_fn (hin y3 y2) (Seals.refl _ _) qS ?_
  rintro _ _ _ ⟨rfl, q, Z, e, rfl, h1, h2, rfl⟩
  exact fin ⟨rfl, q, Z, e, rfl, fun h => absurd h hz, fun h => h2 h (by omega), rfl⟩ (Seals.trans (Seals.drop 0 _ _) (Seals.sub qS))
open Go.RowKit
theorem fl_hyp {P : List Int} {x y e : Int} {O : List Int} (h : FlSpec P x y O e) (h6 : P.length ≤ 6) : 0 < dg P → x ≤ y → ∀ s, SimSpec P s → ∃ ls, ChL ls ∧ ls.getD 0 [] = s ∧ ls.length ≤ 100 ∧ Flr ls x (y + 1) O := fun hd hxy s hs => by
  obtain ⟨_, s', ls, g1, g2, g3, g4, g5⟩ := h.ok hd hxy
  obtain rfl := hs.unique g1
  refine ⟨ls, g2, g3, ?_, g5⟩
  obtain ⟨g, _, hg⟩ := hs.ok hd
  have := (Dv.deg (a := s) (b := pprim P) ⟨g, fun x => by rw [hg]; exact Int.mul_comm _ _⟩ (by rw [pprim_dg]; exact hd)).2
  rw [pprim_dg] at this
  have := dg_le_len P
  omega
theorem fl_same {P : List Int} {x y e e' : Int} {O O' : List Int} (h : FlSpec P x y O e) (h1 : dg P = 0 ∨ y < x → O' = [] ∧ e' = 1) (h2 : 0 < dg P → x ≤ y → O' = O ∧ e' = 0) : O' = O ∧ e = e' := by
  by_cases g : dg P = 0 ∨ y < x
  · obtain ⟨rfl, rfl⟩ := h.bad g
    obtain ⟨rfl, rfl⟩ := h1 g
    exact ⟨rfl, rfl⟩
  · obtain ⟨k1, _⟩ := h.ok (by omega) (by omega)
    obtain ⟨k2, k3⟩ := h2 (by omega) (by omega)
    exact ⟨k2, by rw [k1, k3]⟩
theorem in_same {P : List Int} {x y e e' : Int} {O Z : List Int} (h : FlSpec P x y O e) (h1 : dg P = 0 ∨ y < x → Z = [] ∧ e' = 1) (h2 : 0 < dg P → x ≤ y → Z = inRt P O ∧ e' = 0) : Z = inRt P O ∧ e = e' := by
  by_cases g : dg P = 0 ∨ y < x
  · obtain ⟨rfl, rfl⟩ := h.bad g
    obtain ⟨rfl, rfl⟩ := h1 g
    exact ⟨rfl, rfl⟩
  · obtain ⟨k1, _⟩ := h.ok (by omega) (by omega)
    obtain ⟨k2, k3⟩ := h2 (by omega) (by omega)
    exact ⟨k2, by rw [k1, k3]⟩
theorem all_hyp {P Z : List Int} {e : Int} (h : AlSpec P Z e) (h6 : P.length ≤ 6) : ∃ O1, O1.length ≤ 1048578 ∧ (∀ t, t ∈ O1 → -rbnd P ≤ t ∧ t ≤ rbnd P) ∧
    (0 < dg P → ∀ s, SimSpec P s → ∃ ls, ChL ls ∧ ls.getD 0 [] = s ∧ ls.length ≤ 100 ∧ Flr ls (-rbnd P) (rbnd P + 1) O1) ∧
    ∀ Z' e', (dg P = 0 → Z' = [] ∧ e' = 1) → (0 < dg P → Z' = inRt P O1 ∧ e' = 0) → Z' = Z ∧ e = e' := by
  have hb := rbnd_two P
  by_cases g : dg P = 0
  · obtain ⟨rfl, rfl⟩ := h.bad g
    exact ⟨[], by simp, fun t ht => by simp at ht, fun h => by omega, fun Z' e' h1 _ => by
      obtain ⟨rfl, rfl⟩ := h1 g
      exact ⟨rfl, rfl⟩⟩
  · obtain ⟨O, hO, rfl⟩ := h.ok (by omega)
    refine ⟨O, hO.few, hO.mem, fun hd s hs => fl_hyp hO h6 hd (by omega) s hs, fun Z' e' _ h2 => ?_⟩
    obtain ⟨k1, _⟩ := hO.ok (by omega) (by omega)
    obtain ⟨k2, k3⟩ := h2 (by omega)
    exact ⟨k2, by rw [k1, k3]⟩
set_option maxHeartbeats 4000000 in
theorem rfinds_meets (v w u : Value) (p : Row) (x y : Bool × List Nat) (hp : limR p) (hx : Lim x.2) (hy : Lim y.2) :
    Meets Tryz.prog 4 [v, w, u] [(v, V p), (w, J x), (u, J y)] (fun r os fs => os = [] ∧ fs = [] ∧ r = .bool true) := by
  refine meets_of_vc Tryz.func4 (by kernel_rfl) rfl (by kernel_rfl) (Nat.le_of_ble_eq_true rfl) ?_
  refine box_rule (Reads.fact (d := J x) qM) fun lb hlb => ?_
  refine box_rule (Reads.fact (d := J y) qM) fun ub hub => ?_
  refine call_fn shown5_meets (Seals.refl _ _) qS ?_
  rintro _ _ _ ⟨rfl, rfl, rfl⟩
  refine call_fn (rFits_meets v p 5 1) (Seals.refl _ _) qS ?_
  rintro _ _ _ ⟨rfl, rfl, rfl⟩
  by_cases hs : smallR 5 1 p
  case neg =>
    rw [decide_eq_false (show ¬ (p.length ≤ 5 ∧ ∀ x, x ∈ p → x.2.length ≤ 1) from hs)]
    exact fin ⟨rfl, rfl, rfl⟩ (Seals.trans (Seals.drop 0 _ _) (Seals.trans (Seals.drop 0 _ _) (Seals.nil _ _)))
  rw [decide_eq_true (show p.length ≤ 5 ∧ ∀ x, x ∈ p → x.2.length ≤ 1 from hs)]
  refine field_box 1 rfl hlb ?_
  refine load_box_field 1 rfl (Part.right (Part.refl _)) (load_L _) fun u1 => ?_
  refine len_fact (v := u1) qM fun _ => ?_
  refine cmp_split _ rfl (fun hgt => ?_) (fun hgt => ?_)
  ·
    exact fin ⟨rfl, rfl, rfl⟩ (Seals.trans (Seals.drop 0 _ _) (Seals.trans (Seals.drop 0 _ _) (Seals.nil _ _)))
  have hx1 : x.2.length ≤ 1 := by omega
  refine field_box 0 rfl hub ?_
  refine load_box_field 0 rfl (Part.right (Part.refl _)) (load_L _) fun u1 => ?_
  refine len_fact (v := u1) qM fun _ => ?_
  refine cmp_split _ rfl (fun hgt2 => ?_) (fun hgt2 => ?_)
  ·
    exact fin ⟨rfl, rfl, rfl⟩ (Seals.trans (Seals.drop 0 _ _) (Seals.trans (Seals.drop 0 _ _) (Seals.nil _ _)))
  have hy1 : y.2.length ≤ 1 := by omega
  have hf := hs.fit hp
  have hl : p.length ≤ 6 := by have := hs.1; omega
  have hv6 : (vv p).length ≤ 6 := by rw [vv_len]; exact hl
  have zx := sz_jv hx hx1
  have zy := sz_jv hy hy1
  have bx : -36893488147419103232 ≤ jv x := by unfold sz at zx; omega
  have by' : jv y ≤ 36893488147419103232 := by unfold sz at zy; omega
  refine call_fn (rOwn_meets v p (by omega) fun x hx => by have := hs.2 x hx; omega) (Seals.refl _ _) qS ?_
  rintro ov _ _ ⟨rfl, hov, rfl⟩
  have hfl := fun z1 z2 => floors_meets ov z1 z2 p x y 1 6 1 hf hl hx hx1 hy hy1 (by decide) (by decide) (ok6.2.1.of hf hl)
  have hin := fun z1 z2 => in_meets ov z1 z2 p x y 1 6 1 hf hl hx hx1 hy hy1 (by decide) (by decide) (ok6.2.1.of hf hl)
  have hal := all_meets ov p 1 6 hf hl (by decide) (by decide) (ok6.2.2.of hf hl)
  have rfl' := fun z1 z2 O h => rfFloors_meets v z1 z2 p x y O hf hl hx (by omega) hy (by omega) bx by' h
  have rin := fun z1 z2 O h1 h2 h3 => rfIn_meets v z1 z2 p x y O hf hl hx (by omega) hy (by omega) bx by' h1 h2 h3
  have ral := fun O h1 h2 h3 => rfAll_meets v p O hf hl h1 h2 h3
  refine load_box (d := J x) 2 rfl hlb rfl (load_J _) fun a1 => ?_
  refine load_box (d := J y) 1 rfl hub rfl (load_J _) fun a2 => ?_
  refine call_fn (hfl a1 a2) (Seals.L 0 rfl hov) qS ?_
  rintro _ _ _ ⟨rfl, q1, O1, e1, rfl, hO1, rfl⟩
  refine load_box (d := J x) 1 rfl hlb rfl (load_J _) fun a3 => ?_
  refine load_box (d := J y) 0 rfl hub rfl (load_J _) fun a4 => ?_
  refine call_fn (rfl' a3 a4 O1 (fl_hyp hO1 hv6)) (Seals.refl _ _) qS ?_
  rintro _ _ _ ⟨rfl, q2, O2, e2, rfl, h1, h2, rfl⟩
  obtain ⟨rfl, rfl⟩ := fl_same hO1 h1 h2
  refine load_box (d := J x) 1 rfl hlb rfl (load_J _) fun a5 => ?_
  refine load_box (d := J y) 0 rfl hub rfl (load_J _) fun a6 => ?_
  refine call_fn (hin a5 a6) (Seals.refl _ _) qS ?_
  rintro _ _ _ ⟨rfl, q3, O3, e3, rfl, hO3, rfl⟩
  refine load_box (d := J x) 1 rfl hlb rfl (load_J _) fun a7 => ?_
  refine load_box (d := J y) 0 rfl hub rfl (load_J _) fun a8 => ?_
  refine call_fn (rin a7 a8 O3 hO3.few hO3.mem (fl_hyp hO3 hv6)) (Seals.refl _ _) qS ?_
  rintro _ _ _ ⟨rfl, q4, Z4, e4, rfl, h3, h4, rfl⟩
  obtain ⟨rfl, rfl⟩ := in_same hO3 h3 h4
  refine call_fn hal (Seals.refl _ _) qS ?_
  rintro _ _ _ ⟨rfl, q5, Z5, e5, rfl, hZ5, rfl⟩
  obtain ⟨O6, k1, k2, k3, k4⟩ := all_hyp hZ5 hv6
  refine call_fn (ral O6 k1 k2 k3) (Seals.refl _ _) qS ?_
  rintro _ _ _ ⟨rfl, q6, Z6, e6, rfl, h5, h6, rfl⟩
  obtain ⟨rfl, rfl⟩ := k4 _ _ h5 h6
  refine call_fn (exall5T q1 q2 _ _ rfl) (Seals.refl _ _) qS ?_
  rintro _ _ _ ⟨rfl, rfl, rfl⟩
  refine cmp_true rfl rfl ?_
  refine call_fn (exall5T q3 q4 _ _ rfl) (Seals.refl _ _) qS ?_
  rintro _ _ _ ⟨rfl, rfl, rfl⟩
  refine cmp_true rfl rfl ?_
  refine call_fn (exall5T q5 q6 _ _ rfl) (Seals.refl _ _) qS ?_
  rintro _ _ _ ⟨rfl, rfl, rfl⟩
  refine cmp_true rfl rfl ?_
  have hee := exactAll_meets ov v p p
  rw [decide_eq_true rfl] at hee
  refine call_fn hee (Seals.refl _ _) qS ?_
  rintro _ _ _ ⟨rfl, rfl, rfl⟩
  exact fin ⟨rfl, rfl, rfl⟩ (Seals.trans (Seals.drop 0 _ _) (Seals.trans (Seals.drop 0 _ _) (Seals.nil _ _)))
end Go.Proofs.YtgpcepcbdpigfaaGreat
namespace Go.Proofs.YtgpcepcbdpigfaaGreat
open Go.ChangeShapes Go.WideShapes Go.ChangeAt Go.RowKit
open Go.Joins (open_agg2)
set_option maxRecDepth 100000 in
theorem rootsFinds_lifted (os : Os) (started : os.Started) (H : Type) (enc : TypeId × Value → H) :
    ReturnsInHanded {} Tryz.checked os 4 .any (Rows.rootsFindsSpec.pre6 enc Tryz.prog Tryz.f4 Rows.rootsFindsRow.domain false) (Rows.rootsFindsSpec.post enc Tryz.prog Tryz.f4 false true false false) := by
  refine returnsInHanded_of_change (C := Tryz.checked) own0 started (by kernel_rfl) Tryz.func4
    (ChangeSpec.witness6 (enc := enc) (C := Tryz.checked) false ⟨#[], #[.slice none 0 0, .agg #[.bool false, .slice none 0 0], .agg #[.bool false, .slice none 0 0]], []⟩ 8 (by kernel_rfl) (by kernel_rfl) (by kernel_rfl) (by kernel_rfl)) ?_
  intro Wd base args ds gs before hval0 hW hcnd _
  have hval : ∀ (j : Nat) t v, Tryz.f4.params[j]? = some t → args[j]? = some v → Value.okWide Tryz.prog Wd .any base t v := hval0
  have hW' := hW
  obtain ⟨p, q, hA0, hV, rfl, hfz, hnd⟩ := hW
  have hA : DataW.TrodAll enc Tryz.prog Wd 0 (fun _ => true) true Tryz.f4.params.toList args.toList ds p := hA0
  rw [Tryz.params4] at hA hval
  obtain ⟨v0, vs0, d0, ds0, p0, q0, hargs, rfl, rfl, h0, r0⟩ := trodAll_cons hA
  obtain ⟨v1, vs1, d1, ds1, p1, q1, rfl, rfl, rfl, h1, r1⟩ := trodAll_cons r0
  obtain ⟨v2, vs2, d2, ds2, p2, q2, rfl, rfl, rfl, h2, r2⟩ := trodAll_cons r1
  obtain ⟨rfl, rfl, rfl⟩ := trodAll_nil r2
  obtain rfl : args = #[v0, v1, v2] := by cases args; simp_all
  obtain ⟨rfl, rfl⟩ := trodVars_none hV
  obtain ⟨a0, n0, c0, rfl⟩ := okWide_slice Tryz.underlying23 (hval 0 23 v0 rfl rfl)
  have k0 := h0
  have lt0 : ∀ x ∈ p0, x.block < Wd.heap.size := by obtain ⟨m, hm⟩ := k0; exact DataW.trod_lt m _ _ _ hm
  obtain ⟨m0, lm0, rd0⟩ : ∃ m, limR m ∧ Rd (fun b => b < Wd.heap.size) Wd (.slice a0 n0 c0) (V m) := by
    obtain ⟨fuel, hf⟩ := h0
    obtain ⟨m, e1, e2⟩ := rd_poly hf
    exact ⟨m, e1, rd_val rfl e2⟩
  have k1 := h1
  have lt1 : ∀ x ∈ p1, x.block < Wd.heap.size := by obtain ⟨m, hm⟩ := k1; exact DataW.trod_lt m _ _ _ hm
  obtain ⟨m1, lm1, rd1⟩ : ∃ m : Bool × List Nat, Lim m.2 ∧ Rd (fun b => b < Wd.heap.size) Wd v1 (J m) := rd_arg (hval 1 26 v1 rfl rfl) h1
  have k2 := h2
  have lt2 : ∀ x ∈ p2, x.block < Wd.heap.size := by obtain ⟨m, hm⟩ := k2; exact DataW.trod_lt m _ _ _ hm
  obtain ⟨m2, lm2, rd2⟩ : ∃ m : Bool × List Nat, Lim m.2 ∧ Rd (fun b => b < Wd.heap.size) Wd v2 (J m) := rd_arg (hval 2 26 v2 rfl rfl) h2
  clear hA0 hval0
  refine (calls_of_meets (w := Wd) (rfinds_meets (.slice a0 n0 c0) v1 v2 m0 m1 m2 lm0 lm1 lm2) ?_).mono fun e W2 ⟨he, bel⟩ => ?_
  · intro F hF
    simp only [List.mem_cons, List.not_mem_nil, or_false] at hF
    rcases hF with rfl | rfl | rfl
    · exact rd0
    · exact rd1
    · exact rd2
  subst he
  exact ⟨_, rfl, _, _, _, [], _, [], hW', trodAll_mk1 (shut_bool Tryz.underlying4 _), (trodAll_cons_mk (Below.trod laid0 (by kernel_rfl) (of_decide_eq_true (by kernel_rfl)) k0 bel lt0) (trodAll_cons_mk (Below.trod laid0 (by kernel_rfl) (of_decide_eq_true (by kernel_rfl)) k1 bel lt1) (trodAll_cons_mk (Below.trod laid0 (by kernel_rfl) (of_decide_eq_true (by kernel_rfl)) k2 bel lt2) trodAll_mk0))), rfl, bel.frame _, fun h => by cases h⟩
theorem rootsFinds_holds : Rows.RootsFindsSaid :=
  OpenClaim.holds_of_wide 4 Tryz.f4 rfl rfl rfl rfl rfl rfl rfl ⟨rfl, rfl, rfl, rfl, rfl⟩ rfl rfl rfl rfl rfl (by kernel_rfl) Tryz.func4 (by kernel_rfl)
    (of_decide_eq_true (by kernel_rfl)) (by unfold Func.isWrapper; first | (rw [if_pos (by decide +kernel)]; kernel_rfl) | (rw [if_neg (by decide +kernel)]; exact ⟨rfl, rfl⟩))
    (fun os started H enc _ => rootsFinds_lifted os started H enc)
#print axioms rootsFinds_holds
end Go.Proofs.YtgpcepcbdpigfaaGreat
