/- The law RootsTells, lifted. No condition. -/
import Derived.Test.YtgpcepcbdpigfaaGreatM5
import Derived.Test.YtgpcepcbdpigfaaGreatRows
import Derived.OpenShut
import Derived.Below
import Derived.Lib.SmallJoins
set_option linter.unusedVariables false
set_option linter.unusedSimpArgs false
namespace Go.Proofs.YtgpcepcbdpigfaaGreat
open Go.RowKit
theorem rCmpZ6 (v w : Value) (x y : Int) (a : Nat) (hx : sz x a) (hy : sz y a) (ha : a ≤ 137438953471) :
    Meets Tryz.prog 32 [v, w] [(v, zd x), (w, zd y)] (fun r os fs => os = [] ∧ fs = [] ∧ r = .int .i64 (x - y).sign) := by
  have h := fun y1 y2 => rZSub_meets y1 y2 (decide (x < 0)) (decide (y < 0)) (lims x.natAbs) (lims y.natAbs) (Lim_lims _) (Lim_lims _) (Nat.le_trans hx.len (by omega)) (Nat.le_trans hy.len (by omega))
  simp only [iv_zd] at h
  have hd : sz (x - y) (a + 1) := sz_sub hx hy
  have hs := fun z => rSign_meets z (decide (x - y < 0)) (lims (x - y).natAbs) (Lim_lims _) (Nat.le_trans hd.len (by omega))
  simp only [iv_zd] at hs
  refine meets_of_vc Tryz.func32 (by kernel_rfl) rfl (by kernel_rfl) (Nat.le_of_ble_eq_true rfl) ?_
  refine box_rule (Reads.fact (d := zd x) qM) fun p hp => ?_
  refine box_rule (Reads.fact (d := zd y) qM) fun q hq => ?_
  refine load_box (d := zd x) 1 rfl hp rfl (load_I _ _) fun y1 => ?_
  refine load_box (d := zd y) 0 rfl hq rfl (load_I _ _) fun y2 => ?_
  refine call_fn (h y1 y2) (Seals.refl _ _) qS ?_
  rintro z _ _ ⟨rfl, rfl⟩
  refine call_fn (hs z) (Seals.refl _ _) qS ?_
  rintro _ _ _ ⟨rfl, rfl, rfl⟩
  exact fin ⟨rfl, rfl, rfl⟩ (Seals.trans (Seals.drop 0 _ _) (Seals.trans (Seals.drop 0 _ _) (Seals.nil _ _)))
theorem rCmpJ6 (v w : Value) (x y : Bool × List Nat) (a : Nat) (hx : Lim x.2) (lx : x.2.length ≤ a) (hy : Lim y.2) (ly : y.2.length ≤ a) (ha : a ≤ 137438953471) :
    Meets Tryz.prog 32 [v, w] [(v, J x), (w, J y)] (fun r os fs => os = [] ∧ fs = [] ∧ r = .int .i64 (jv x - jv y).sign) := by
  have h : ∀ y1 y2, Meets Tryz.prog 60 [y1, y2] [(y1, J x), (y2, J y)] (fun r os fs => os = [] ∧ fs = [(r, zd (jv x - jv y))]) := fun y1 y2 => rZSub_meets y1 y2 x.1 y.1 x.2 y.2 hx hy (by omega) (by omega)
  have hd : sz (jv x - jv y) (a + 1) := sz_sub (sz_jv hx lx) (sz_jv hy ly)
  have hs := fun z => rSign_meets z (decide (jv x - jv y < 0)) (lims (jv x - jv y).natAbs) (Lim_lims _) (Nat.le_trans hd.len (by omega))
  simp only [iv_zd] at hs
  refine meets_of_vc Tryz.func32 (by kernel_rfl) rfl (by kernel_rfl) (Nat.le_of_ble_eq_true rfl) ?_
  refine box_rule (Reads.fact (d := J x) qM) fun p hp => ?_
  refine box_rule (Reads.fact (d := J y) qM) fun q hq => ?_
  refine load_box (d := J x) 1 rfl hp rfl (load_J _) fun y1 => ?_
  refine load_box (d := J y) 0 rfl hq rfl (load_J _) fun y2 => ?_
  refine call_fn (h y1 y2) (Seals.refl _ _) qS ?_
  rintro z _ _ ⟨rfl, rfl⟩
  refine call_fn (hs z) (Seals.refl _ _) qS ?_
  rintro _ _ _ ⟨rfl, rfl, rfl⟩
  exact fin ⟨rfl, rfl, rfl⟩ (Seals.trans (Seals.drop 0 _ _) (Seals.trans (Seals.drop 0 _ _) (Seals.nil _ _)))
theorem rfBound_meets (v : Value) (p : Row) (k : Nat) (hp : Fit k p) (hk : k ≤ 1073741824) (h1k : 1 ≤ k) (lp : p.length ≤ 1048576) :
    Meets Tryz.prog 9 [v] [(v, V p)] (fun r os fs => os = [] ∧ ∃ q, r = .tuple #[q, .int .i64 (if dg (vv p) = 0 then 1 else 0)] ∧ fs = [(q, zd (if dg (vv p) = 0 then 0 else rbnd (vv p)))]) := by
  have hdeg := rDegreeN v p (hp.mono (by omega))
  have hlen : (vv p).length = p.length := vv_len p
  have hdl := dg_le_len (vv p)
  refine meets_of_vc Tryz.func9 (by kernel_rfl) rfl (by kernel_rfl) (Nat.le_of_ble_eq_true rfl) ?_
  refine alloc_rule (d := I false []) fun o ho => ?_
  by_cases hz : dg (vv p) = 0
  · rw [if_pos hz, if_pos hz]
    refine call_fn hdeg (Seals.refl _ _) qS ?_
    rintro _ _ _ ⟨rfl, rfl, rfl⟩
    refine cmp_true rfl (by omega) ?_
    refine build0 (da := .one (.bool false)) (db := U (lims 0)) (fun S w => ⟨[.bool false], [.slice none 0 0], rfl, rd_false S w, by rw [lims_zero]; exact rd_nil S w 1 _⟩) fun z => ?_
    refine store_box (d := zd 0) 0 rfl ho rfl (by kernel_rfl) (Reads.fact (v := z) (d := zd 0) qM) ?_
    refine load_box (d := zd 0) 0 rfl ho rfl (load_I _ _) fun r => ?_
    exact fin ⟨rfl, r, rfl, rfl⟩ (Seals.trans (Seals.drop 0 _ _) (Seals.sub qS))
  rw [if_neg hz, if_neg hz]
  obtain ⟨D, hD⟩ : ∃ D, dg (vv p) = D + 1 := ⟨dg (vv p) - 1, by omega⟩
  rw [hD, show (((D + 1 : Nat) : Int) - 1) = (D : Nat) by omega] at hdeg
  have hld : ld (vv p) = jv (p.getD D z0) := by
    unfold ld; rw [hD]; exact vv_get p D (by omega)
  have hld0 := ld_ne (l := vv p) (by omega)
  have hM : ∀ i, sz (mxa ((vv p).take i) : Nat) k := fun i => mxa_sz (hp.szR.take i)
  have hMs : ∀ i, i < p.length → mxa ((vv p).take (i + 1)) = max (mxa ((vv p).take i)) (jv (p.getD i z0)).natAbs := fun i hi => by
    rw [mxa_take (by omega), vv_get p i hi]
  have hnn : ∀ (z : Int), sz z k → sz ((z.natAbs : Nat) : Int) k := fun z h => by unfold sz at *; rwa [Int.natAbs_natCast]
  have habs : ∀ y i, Meets Tryz.prog 33 [y] [(y, J (p.getD i z0))] (fun r os fs => os = [] ∧ fs = [(r, zd ((jv (p.getD i z0)).natAbs : Nat))]) := fun y i => by
    have := hp.get i
    exact rAbs_meets y (p.getD i z0).1 (p.getD i z0).2 this.1 (by omega)
  have hdm := fun r1 r2 => rDivModZ r1 r2 (mxa ((vv p).take D) : Nat) ((jv (p.getD D z0)).natAbs : Nat) k (hM D) (hnn _ (sz_jv (hp.get D).1 (hp.get D).2)) (by omega) (by rw [hld] at hld0; omega)
  have hbd : rbnd (vv p) = ((mxa ((vv p).take D) : Nat) : Int) / ((jv (p.getD D z0)).natAbs : Int) + 2 := by unfold rbnd; rw [hD, hld]; rfl
  rw [hbd]
  have hQz : sz (((mxa ((vv p).take D) : Nat) : Int) / ((jv (p.getD D z0)).natAbs : Int)) k := sz_div (hM D)
  generalize hQ : ((mxa ((vv p).take D) : Nat) : Int) / ((jv (p.getD D z0)).natAbs : Int) = Q at *
  generalize ((mxa ((vv p).take D) : Nat) : Int) % ((jv (p.getD D z0)).natAbs : Int) = R at *
  refine call_fn hdeg (Seals.refl _ _) qS ?_
  rintro _ _ _ ⟨rfl, rfl, rfl⟩
  refine cmp_false rfl (by omega) ?_
  refine build0 (da := .one (.bool false)) (db := U (lims 0)) (fun S w => ⟨[.bool false], [.slice none 0 0], rfl, rd_false S w, by rw [lims_zero]; exact rd_nil S w 1 _⟩) fun z => ?_
  refine alloc_rule (d := I false []) fun mb hmb => ?_
  refine store_box (d := zd 0) 0 rfl hmb rfl (by kernel_rfl) (Reads.fact (v := z) (d := zd 0) qM) ?_
  refine loop_rule (X := Nat) (fun i => ([(0, v), (2, o), (4, .int .i64 (D : Nat)), (5, mb), (6, .int .i64 (i : Nat))], [own1 mb 2 1 (fun _ => zd (mxa ((vv p).take i) : Nat)), own1 o 2 1 (fun _ => I false [])], [(v, V p)]))
    (fun i => i ≤ D) (fun i => D - i) rfl ?_ ?_
  · exact again 0 (Nat.zero_le _) trivial qF (Seals.trans (Seals.box0 rfl) (Seals.sub qS))
  rintro i hi
  refine cmp_split _ rfl (fun hlt => ?_) (fun hlt => ?_)
  · have hiD : i < D := by omega
    have hs := hMs i (by omega)
    have za := hnn _ (sz_jv (hp.get i).1 (hp.get i).2)
    refine draw_rule [0, 1, 2, 3, 5, 4, 6, 7] [0, 1, 2, 3, 4, 5, 6, 7] (by kernel_rfl) (by kernel_rfl) ?_
    refine index_fact (v := v) qM i rfl (by omega) fun a1 => ?_
    refine load_fact (d := J (p.getD i z0)) qM (load_J _) fun a2 => ?_
    refine load_box (d := zd (mxa ((vv p).take i) : Nat)) 0 rfl hmb rfl (load_I _ _) fun a4 => ?_
    refine call_fn (habs a2 i) (Seals.refl _ _) qS ?_
    rintro a5 _ _ ⟨rfl, rfl⟩
    refine call_fn (rCmpZ6 a5 a4 _ _ k za (hM i) (by omega)) (Seals.refl _ _) qS ?_
    rintro _ _ _ ⟨rfl, rfl, rfl⟩
    refine cmp_split _ rfl (fun hgt => ?_) (fun hgt => ?_)
    · have hg : mxa ((vv p).take i) < (jv (p.getD i z0)).natAbs := by
        refine Nat.lt_of_not_ge fun h => ?_
        rcases Int.lt_trichotomy (((jv (p.getD i z0)).natAbs : Int) - (mxa ((vv p).take i) : Nat)) 0 with g | g | g
        · rw [sgn_neg g] at hgt; omega
        · rw [g] at hgt; simp at hgt
        · omega
      refine index_fact (v := v) qM i rfl (by omega) fun a6 => ?_
      refine load_fact (d := J (p.getD i z0)) qM (load_J _) fun a8 => ?_
      refine call_fn (habs a8 i) (Seals.refl _ _) qS ?_
      rintro a7 _ _ ⟨rfl, rfl⟩
      refine store_box (d := zd ((jv (p.getD i z0)).natAbs : Nat)) 0 rfl hmb rfl (by kernel_rfl) (Reads.fact (v := a7) qM) ?_
      refine ar rfl qI ?_
      exact again (i + 1) (by omega) (by simp only; omega) qF (Seals.trans (Seals.box0 (by rw [hs, Nat.max_eq_right (Nat.le_of_lt hg)]; rfl)) (Seals.sub qS))
    · have hg : (jv (p.getD i z0)).natAbs ≤ mxa ((vv p).take i) := by
        refine Nat.le_of_not_lt fun h => hgt ?_
        rw [sgn_pos (show 0 < ((jv (p.getD i z0)).natAbs : Int) - (mxa ((vv p).take i) : Nat) by omega)]; decide
      refine ar rfl qI ?_
      exact again (i + 1) (by omega) (by simp only; omega) qF (Seals.trans (Seals.box0 (by rw [hs, Nat.max_eq_left hg])) (Seals.sub qS))
  have hiD : D = i := by omega
  subst hiD
  refine draw_join (X := Value) (fun b1 => ([(2, o), (7, b1)], [own1 o 2 1 (fun _ => I false [])], [(b1, .ptr (zd Q))])) (fun _ => True) ?_ ?_
  ·
      refine draw_ord [0, 1, 2, 3, 4, 5, 6, 7, 8, 11, 12, 13, 9, 14, 10, 15] (by kernel_rfl) ?_
      refine ord_split 5 11 (by kernel_rfl) (by kernel_rfl) (by kernel_rfl) ?_ ?_
      · refine ord_split 5 12 (by kernel_rfl) (by kernel_rfl) (by kernel_rfl) ?_ ?_
        · refine ord_split 6 11 (by kernel_rfl) (by kernel_rfl) (by kernel_rfl) ?_ ?_
          · refine ord_split 6 12 (by kernel_rfl) (by kernel_rfl) (by kernel_rfl) ?_ ?_
            · refine ord_split 11 12 (by kernel_rfl) (by kernel_rfl) (by kernel_rfl) ?_ ?_
              · refine ord_go [0, 1, 2, 3, 4, 5, 6, 7, 8, 9, 10, 11, 12, 13, 14, 15] (by kernel_rfl) (by kernel_rfl) ?_
                refine load_box (d := zd (mxa ((vv p).take D) : Nat)) 0 rfl hmb rfl (load_I _ _) fun r1 => ?_
                refine index_fact (v := v) qM D rfl (by omega) fun r2 => ?_
                refine load_fact (d := J (p.getD D z0)) qM (load_J _) fun r3 => ?_
                refine call_fn (habs r3 D) (Seals.refl _ _) qS ?_
                rintro r4 _ _ ⟨rfl, rfl⟩
                refine call_fn (hdm r1 r4) (Seals.refl _ _) qS ?_
                rintro _ _ _ ⟨rfl, r5, r6, rfl, rfl⟩
                refine alloc_rule (d := I false []) fun b1 h1 => ?_
                refine alloc_rule (d := I false []) fun b2 h2 => ?_
                refine store_box (d := zd Q) 1 rfl h1 rfl (by kernel_rfl) (Reads.fact (v := r5) qM) ?_
                refine store_box (d := zd R) 0 rfl h2 rfl (by kernel_rfl) (Reads.fact (v := r6) qM) ?_
                exact again b1 trivial trivial qF (Seals.trans (Seals.drop 0 _ _) (Seals.trans (Seals.box (d := zd Q) 0 rfl h1 rfl) (Seals.trans (Seals.drop 0 _ _) (Seals.sub qS))))
              · refine ord_go [0, 1, 2, 3, 4, 5, 6, 7, 8, 9, 10, 12, 11, 13, 14, 15] (by kernel_rfl) (by kernel_rfl) ?_
                refine load_box (d := zd (mxa ((vv p).take D) : Nat)) 0 rfl hmb rfl (load_I _ _) fun r1 => ?_
                refine index_fact (v := v) qM D rfl (by omega) fun r2 => ?_
                refine load_fact (d := J (p.getD D z0)) qM (load_J _) fun r3 => ?_
                refine call_fn (habs r3 D) (Seals.refl _ _) qS ?_
                rintro r4 _ _ ⟨rfl, rfl⟩
                refine call_fn (hdm r1 r4) (Seals.refl _ _) qS ?_
                rintro _ _ _ ⟨rfl, r5, r6, rfl, rfl⟩
                refine alloc_rule (d := I false []) fun b2 h2 => ?_
                refine alloc_rule (d := I false []) fun b1 h1 => ?_
                refine store_box (d := zd Q) 0 rfl h1 rfl (by kernel_rfl) (Reads.fact (v := r5) qM) ?_
                refine store_box (d := zd R) 1 rfl h2 rfl (by kernel_rfl) (Reads.fact (v := r6) qM) ?_
                exact again b1 trivial trivial qF (Seals.trans (Seals.box (d := zd Q) 0 rfl h1 rfl) (Seals.trans (Seals.drop 0 _ _) (Seals.trans (Seals.drop 0 _ _) (Seals.sub qS))))
            · refine ord_go [0, 1, 2, 3, 4, 5, 12, 6, 7, 8, 9, 10, 11, 13, 14, 15] (by kernel_rfl) (by kernel_rfl) ?_
              refine load_box (d := zd (mxa ((vv p).take D) : Nat)) 0 rfl hmb rfl (load_I _ _) fun r1 => ?_
              refine index_fact (v := v) qM D rfl (by omega) fun r2 => ?_
              refine load_fact (d := J (p.getD D z0)) qM (load_J _) fun r3 => ?_
              refine call_fn (habs r3 D) (Seals.refl _ _) qS ?_
              rintro r4 _ _ ⟨rfl, rfl⟩
              refine alloc_rule (d := I false []) fun b2 h2 => ?_
              refine call_fn (hdm r1 r4) (Seals.refl _ _) qS ?_
              rintro _ _ _ ⟨rfl, r5, r6, rfl, rfl⟩
              refine alloc_rule (d := I false []) fun b1 h1 => ?_
              refine store_box (d := zd Q) 0 rfl h1 rfl (by kernel_rfl) (Reads.fact (v := r5) qM) ?_
              refine store_box (d := zd R) 1 rfl h2 rfl (by kernel_rfl) (Reads.fact (v := r6) qM) ?_
              exact again b1 trivial trivial qF (Seals.trans (Seals.box (d := zd Q) 0 rfl h1 rfl) (Seals.trans (Seals.drop 0 _ _) (Seals.trans (Seals.drop 0 _ _) (Seals.sub qS))))
          · refine ord_split 6 12 (by kernel_rfl) (by kernel_rfl) (by kernel_rfl) ?_ ?_
            · refine ord_go [0, 1, 2, 3, 4, 5, 11, 6, 7, 8, 9, 10, 12, 13, 14, 15] (by kernel_rfl) (by kernel_rfl) ?_
              refine load_box (d := zd (mxa ((vv p).take D) : Nat)) 0 rfl hmb rfl (load_I _ _) fun r1 => ?_
              refine index_fact (v := v) qM D rfl (by omega) fun r2 => ?_
              refine load_fact (d := J (p.getD D z0)) qM (load_J _) fun r3 => ?_
              refine call_fn (habs r3 D) (Seals.refl _ _) qS ?_
              rintro r4 _ _ ⟨rfl, rfl⟩
              refine alloc_rule (d := I false []) fun b1 h1 => ?_
              refine call_fn (hdm r1 r4) (Seals.refl _ _) qS ?_
              rintro _ _ _ ⟨rfl, r5, r6, rfl, rfl⟩
              refine alloc_rule (d := I false []) fun b2 h2 => ?_
              refine store_box (d := zd Q) 1 rfl h1 rfl (by kernel_rfl) (Reads.fact (v := r5) qM) ?_
              refine store_box (d := zd R) 0 rfl h2 rfl (by kernel_rfl) (Reads.fact (v := r6) qM) ?_
              exact again b1 trivial trivial qF (Seals.trans (Seals.drop 0 _ _) (Seals.trans (Seals.box (d := zd Q) 0 rfl h1 rfl) (Seals.trans (Seals.drop 0 _ _) (Seals.sub qS))))
            · refine ord_split 11 12 (by kernel_rfl) (by kernel_rfl) (by kernel_rfl) ?_ ?_
              · refine ord_go [0, 1, 2, 3, 4, 5, 11, 12, 6, 7, 8, 9, 10, 13, 14, 15] (by kernel_rfl) (by kernel_rfl) ?_
                refine load_box (d := zd (mxa ((vv p).take D) : Nat)) 0 rfl hmb rfl (load_I _ _) fun r1 => ?_
                refine index_fact (v := v) qM D rfl (by omega) fun r2 => ?_
                refine load_fact (d := J (p.getD D z0)) qM (load_J _) fun r3 => ?_
                refine call_fn (habs r3 D) (Seals.refl _ _) qS ?_
                rintro r4 _ _ ⟨rfl, rfl⟩
                refine alloc_rule (d := I false []) fun b1 h1 => ?_
                refine alloc_rule (d := I false []) fun b2 h2 => ?_
                refine call_fn (hdm r1 r4) (Seals.refl _ _) qS ?_
                rintro _ _ _ ⟨rfl, r5, r6, rfl, rfl⟩
                refine store_box (d := zd Q) 1 rfl h1 rfl (by kernel_rfl) (Reads.fact (v := r5) qM) ?_
                refine store_box (d := zd R) 0 rfl h2 rfl (by kernel_rfl) (Reads.fact (v := r6) qM) ?_
                exact again b1 trivial trivial qF (Seals.trans (Seals.drop 0 _ _) (Seals.trans (Seals.box (d := zd Q) 0 rfl h1 rfl) (Seals.trans (Seals.drop 0 _ _) (Seals.sub qS))))
              · refine ord_go [0, 1, 2, 3, 4, 5, 12, 11, 6, 7, 8, 9, 10, 13, 14, 15] (by kernel_rfl) (by kernel_rfl) ?_
                refine load_box (d := zd (mxa ((vv p).take D) : Nat)) 0 rfl hmb rfl (load_I _ _) fun r1 => ?_
                refine index_fact (v := v) qM D rfl (by omega) fun r2 => ?_
                refine load_fact (d := J (p.getD D z0)) qM (load_J _) fun r3 => ?_
                refine call_fn (habs r3 D) (Seals.refl _ _) qS ?_
                rintro r4 _ _ ⟨rfl, rfl⟩
                refine alloc_rule (d := I false []) fun b2 h2 => ?_
                refine alloc_rule (d := I false []) fun b1 h1 => ?_
                refine call_fn (hdm r1 r4) (Seals.refl _ _) qS ?_
                rintro _ _ _ ⟨rfl, r5, r6, rfl, rfl⟩
                refine store_box (d := zd Q) 0 rfl h1 rfl (by kernel_rfl) (Reads.fact (v := r5) qM) ?_
                refine store_box (d := zd R) 1 rfl h2 rfl (by kernel_rfl) (Reads.fact (v := r6) qM) ?_
                exact again b1 trivial trivial qF (Seals.trans (Seals.box (d := zd Q) 0 rfl h1 rfl) (Seals.trans (Seals.drop 0 _ _) (Seals.trans (Seals.drop 0 _ _) (Seals.sub qS))))
        · refine ord_split 6 11 (by kernel_rfl) (by kernel_rfl) (by kernel_rfl) ?_ ?_
          · refine ord_go [0, 1, 2, 3, 4, 12, 5, 6, 7, 8, 9, 10, 11, 13, 14, 15] (by kernel_rfl) (by kernel_rfl) ?_
            refine load_box (d := zd (mxa ((vv p).take D) : Nat)) 0 rfl hmb rfl (load_I _ _) fun r1 => ?_
            refine index_fact (v := v) qM D rfl (by omega) fun r2 => ?_
            refine load_fact (d := J (p.getD D z0)) qM (load_J _) fun r3 => ?_
            refine alloc_rule (d := I false []) fun b2 h2 => ?_
            refine call_fn (habs r3 D) (Seals.refl _ _) qS ?_
            rintro r4 _ _ ⟨rfl, rfl⟩
            refine call_fn (hdm r1 r4) (Seals.refl _ _) qS ?_
            rintro _ _ _ ⟨rfl, r5, r6, rfl, rfl⟩
            refine alloc_rule (d := I false []) fun b1 h1 => ?_
            refine store_box (d := zd Q) 0 rfl h1 rfl (by kernel_rfl) (Reads.fact (v := r5) qM) ?_
            refine store_box (d := zd R) 1 rfl h2 rfl (by kernel_rfl) (Reads.fact (v := r6) qM) ?_
            exact again b1 trivial trivial qF (Seals.trans (Seals.box (d := zd Q) 0 rfl h1 rfl) (Seals.trans (Seals.drop 0 _ _) (Seals.trans (Seals.drop 0 _ _) (Seals.sub qS))))
          · refine ord_go [0, 1, 2, 3, 4, 12, 5, 11, 6, 7, 8, 9, 10, 13, 14, 15] (by kernel_rfl) (by kernel_rfl) ?_
            refine load_box (d := zd (mxa ((vv p).take D) : Nat)) 0 rfl hmb rfl (load_I _ _) fun r1 => ?_
            refine index_fact (v := v) qM D rfl (by omega) fun r2 => ?_
            refine load_fact (d := J (p.getD D z0)) qM (load_J _) fun r3 => ?_
            refine alloc_rule (d := I false []) fun b2 h2 => ?_
            refine call_fn (habs r3 D) (Seals.refl _ _) qS ?_
            rintro r4 _ _ ⟨rfl, rfl⟩
            refine alloc_rule (d := I false []) fun b1 h1 => ?_
            refine call_fn (hdm r1 r4) (Seals.refl _ _) qS ?_
            rintro _ _ _ ⟨rfl, r5, r6, rfl, rfl⟩
            refine store_box (d := zd Q) 0 rfl h1 rfl (by kernel_rfl) (Reads.fact (v := r5) qM) ?_
            refine store_box (d := zd R) 1 rfl h2 rfl (by kernel_rfl) (Reads.fact (v := r6) qM) ?_
            exact again b1 trivial trivial qF (Seals.trans (Seals.box (d := zd Q) 0 rfl h1 rfl) (Seals.trans (Seals.drop 0 _ _) (Seals.trans (Seals.drop 0 _ _) (Seals.sub qS))))
      · refine ord_split 5 12 (by kernel_rfl) (by kernel_rfl) (by kernel_rfl) ?_ ?_
        · refine ord_split 6 12 (by kernel_rfl) (by kernel_rfl) (by kernel_rfl) ?_ ?_
          · refine ord_go [0, 1, 2, 3, 4, 11, 5, 6, 7, 8, 9, 10, 12, 13, 14, 15] (by kernel_rfl) (by kernel_rfl) ?_
            refine load_box (d := zd (mxa ((vv p).take D) : Nat)) 0 rfl hmb rfl (load_I _ _) fun r1 => ?_
            refine index_fact (v := v) qM D rfl (by omega) fun r2 => ?_
            refine load_fact (d := J (p.getD D z0)) qM (load_J _) fun r3 => ?_
            refine alloc_rule (d := I false []) fun b1 h1 => ?_
            refine call_fn (habs r3 D) (Seals.refl _ _) qS ?_
            rintro r4 _ _ ⟨rfl, rfl⟩
            refine call_fn (hdm r1 r4) (Seals.refl _ _) qS ?_
            rintro _ _ _ ⟨rfl, r5, r6, rfl, rfl⟩
            refine alloc_rule (d := I false []) fun b2 h2 => ?_
            refine store_box (d := zd Q) 1 rfl h1 rfl (by kernel_rfl) (Reads.fact (v := r5) qM) ?_
            refine store_box (d := zd R) 0 rfl h2 rfl (by kernel_rfl) (Reads.fact (v := r6) qM) ?_
            exact again b1 trivial trivial qF (Seals.trans (Seals.drop 0 _ _) (Seals.trans (Seals.box (d := zd Q) 0 rfl h1 rfl) (Seals.trans (Seals.drop 0 _ _) (Seals.sub qS))))
          · refine ord_go [0, 1, 2, 3, 4, 11, 5, 12, 6, 7, 8, 9, 10, 13, 14, 15] (by kernel_rfl) (by kernel_rfl) ?_
            refine load_box (d := zd (mxa ((vv p).take D) : Nat)) 0 rfl hmb rfl (load_I _ _) fun r1 => ?_
            refine index_fact (v := v) qM D rfl (by omega) fun r2 => ?_
            refine load_fact (d := J (p.getD D z0)) qM (load_J _) fun r3 => ?_
            refine alloc_rule (d := I false []) fun b1 h1 => ?_
            refine call_fn (habs r3 D) (Seals.refl _ _) qS ?_
            rintro r4 _ _ ⟨rfl, rfl⟩
            refine alloc_rule (d := I false []) fun b2 h2 => ?_
            refine call_fn (hdm r1 r4) (Seals.refl _ _) qS ?_
            rintro _ _ _ ⟨rfl, r5, r6, rfl, rfl⟩
            refine store_box (d := zd Q) 1 rfl h1 rfl (by kernel_rfl) (Reads.fact (v := r5) qM) ?_
            refine store_box (d := zd R) 0 rfl h2 rfl (by kernel_rfl) (Reads.fact (v := r6) qM) ?_
            exact again b1 trivial trivial qF (Seals.trans (Seals.drop 0 _ _) (Seals.trans (Seals.box (d := zd Q) 0 rfl h1 rfl) (Seals.trans (Seals.drop 0 _ _) (Seals.sub qS))))
        · refine ord_split 11 12 (by kernel_rfl) (by kernel_rfl) (by kernel_rfl) ?_ ?_
          · refine ord_go [0, 1, 2, 3, 4, 11, 12, 5, 6, 7, 8, 9, 10, 13, 14, 15] (by kernel_rfl) (by kernel_rfl) ?_
            refine load_box (d := zd (mxa ((vv p).take D) : Nat)) 0 rfl hmb rfl (load_I _ _) fun r1 => ?_
            refine index_fact (v := v) qM D rfl (by omega) fun r2 => ?_
            refine load_fact (d := J (p.getD D z0)) qM (load_J _) fun r3 => ?_
            refine alloc_rule (d := I false []) fun b1 h1 => ?_
            refine alloc_rule (d := I false []) fun b2 h2 => ?_
            refine call_fn (habs r3 D) (Seals.refl _ _) qS ?_
            rintro r4 _ _ ⟨rfl, rfl⟩
            refine call_fn (hdm r1 r4) (Seals.refl _ _) qS ?_
            rintro _ _ _ ⟨rfl, r5, r6, rfl, rfl⟩
            refine store_box (d := zd Q) 1 rfl h1 rfl (by kernel_rfl) (Reads.fact (v := r5) qM) ?_
            refine store_box (d := zd R) 0 rfl h2 rfl (by kernel_rfl) (Reads.fact (v := r6) qM) ?_
            exact again b1 trivial trivial qF (Seals.trans (Seals.drop 0 _ _) (Seals.trans (Seals.box (d := zd Q) 0 rfl h1 rfl) (Seals.trans (Seals.drop 0 _ _) (Seals.sub qS))))
          · refine ord_go [0, 1, 2, 3, 4, 12, 11, 5, 6, 7, 8, 9, 10, 13, 14, 15] (by kernel_rfl) (by kernel_rfl) ?_
            refine load_box (d := zd (mxa ((vv p).take D) : Nat)) 0 rfl hmb rfl (load_I _ _) fun r1 => ?_
            refine index_fact (v := v) qM D rfl (by omega) fun r2 => ?_
            refine load_fact (d := J (p.getD D z0)) qM (load_J _) fun r3 => ?_
            refine alloc_rule (d := I false []) fun b2 h2 => ?_
            refine alloc_rule (d := I false []) fun b1 h1 => ?_
            refine call_fn (habs r3 D) (Seals.refl _ _) qS ?_
            rintro r4 _ _ ⟨rfl, rfl⟩
            refine call_fn (hdm r1 r4) (Seals.refl _ _) qS ?_
            rintro _ _ _ ⟨rfl, r5, r6, rfl, rfl⟩
            refine store_box (d := zd Q) 0 rfl h1 rfl (by kernel_rfl) (Reads.fact (v := r5) qM) ?_
            refine store_box (d := zd R) 1 rfl h2 rfl (by kernel_rfl) (Reads.fact (v := r6) qM) ?_
            exact again b1 trivial trivial qF (Seals.trans (Seals.box (d := zd Q) 0 rfl h1 rfl) (Seals.trans (Seals.drop 0 _ _) (Seals.trans (Seals.drop 0 _ _) (Seals.sub qS))))
  rintro b1 -
  simp only
  refine draw_rule [0, 1, 2, 3, 4] [0, 1, 2, 3, 4] (by kernel_rfl) (by kernel_rfl) ?_
  refine load_fact (d := zd Q) qM (load_I _ _) fun e1 => ?_
  refine call_fn (rOf_meets 2 (by decide) (by decide)) (Seals.refl _ _) qS ?_
  rintro e2 _ _ ⟨rfl, rfl⟩
  refine call_fn (rAddZ e1 e2 Q 2 k hQz ((show sz 2 1 by unfold sz; decide).mono h1k) (by omega)) (Seals.refl _ _) qS ?_
  rintro e3 _ _ ⟨rfl, rfl⟩
  refine store_box (d := zd (Q + 2)) 0 rfl ho rfl (by kernel_rfl) (Reads.fact (v := e3) qM) ?_
  refine load_box (d := zd (Q + 2)) 0 rfl ho rfl (load_I _ _) fun r => ?_
  exact fin ⟨rfl, r, rfl, rfl⟩ (Seals.trans (Seals.drop 0 _ _) (Seals.sub qS))
theorem tay_end {w i : Int} (hw : w ≠ 0) (l : List Int) : pev (tay (2 * w) (2 * i + 1) l) 1 = 0 ↔ pev (tay w i l) 1 = 0 := by
  have h1 := tay_ev (2 * w) (2 * i + 1) 1 l
  have h2 := tay_ev w i 1 l
  rw [show 2 * i + 1 + 1 = 2 * (i + 1) by omega, gh_hom, ← h2] at h1
  constructor
  · intro h
    rw [h, Int.mul_zero] at h1
    have h3 := (Int.mul_eq_zero.1 h1.symm).resolve_left (Int.pow_ne_zero (by decide))
    exact (Int.mul_eq_zero.1 h3).resolve_left hw
  · intro h
    rw [h, Int.mul_zero, Int.mul_zero] at h1
    exact (Int.mul_eq_zero.1 h1).resolve_left (by omega)
theorem unit_meets {u : List Int} {m J K : Nat} (hu : UOk u m J K) (h1K : 1 ≤ K) (hK : K ≤ 1073741824) : ∀ (d j i : Nat), j + d = J → i < 2 ^ j → ∀ v : Value,
    Meets Tryz.prog 40 [v] [(v, vd (tay (2 ^ j : Nat) i u))] (fun r os fs => os = [] ∧ fs = [] ∧ ∃ c : Nat, r = .int .i64 (c : Int) ∧ c ≤ 1000 ∧ CC u m j i (c + if pev (tay (2 ^ j : Nat) i u) 1 = 0 then 1 else 0)) := by
  intro d
  induction d with
  | zero =>
    intro j i hj hi v
    obtain rfl : j = J := by omega
    have hn := tay_nm (2 ^ j : Nat) i hu.nm
    have hl := tay_len (2 ^ j : Nat) i u
    have hz := hu.sz j i (Nat.le_refl _) hi
    have hul := List.length_pos_iff.2 hu.ne
    have hu6 := hu.len
    have hT : ∀ x, pev (pshi 1 (tay (2 ^ j : Nat) i u).reverse) x = pev (tay (2 ^ j : Nat) i u).reverse (x + 1) := fun x => ev_pshi _ _ _
    have hfew := hu.fine i _ hi hT
    have hcc := CC.desc hu.m1 hu.nm hu.ne hT hfew
    have hmay := may_meets v (tay (2 ^ j : Nat) i u) K hz (by omega) h1K hn (by omega) (by omega)
    generalize vs 0 (pshi 1 (tay (2 ^ j : Nat) i u).reverse) = n at *
    refine meets_of_vc Tryz.func40 (by kernel_rfl) rfl (by kernel_rfl) (Nat.le_of_ble_eq_true rfl) ?_
    refine call_fn hmay (Seals.refl _ _) qS ?_
    rintro _ _ _ ⟨rfl, rfl, rfl⟩
    refine cmp_true rfl (by omega) ?_
    exact fin ⟨rfl, rfl, n, rfl, by omega, hcc⟩ (Seals.nil _ _)
  | succ d ih =>
    intro j i hj hi v
    have hn := tay_nm (2 ^ j : Nat) i hu.nm
    have hl := tay_len (2 ^ j : Nat) i u
    have hz := hu.sz j i (by omega) hi
    have hul := List.length_pos_iff.2 hu.ne
    have hu6 := hu.len
    have hT : ∀ x, pev (pshi 1 (tay (2 ^ j : Nat) i u).reverse) x = pev (tay (2 ^ j : Nat) i u).reverse (x + 1) := fun x => ev_pshi _ _ _
    have hcc := CC.desc (j := j) (i := (i : Int)) hu.m1 hu.nm hu.ne hT
    have hmay := may_meets v (tay (2 ^ j : Nat) i u) K hz (by omega) h1K hn (by omega) (by omega)
    have hhalf := halved_meets v (tay (2 ^ j : Nat) i u) K hz (by omega) hn (by omega) (by omega)
    have hp : ((2 ^ (j + 1) : Nat) : Int) = 2 * ((2 ^ j : Nat) : Int) := by rw [Nat.pow_succ]; omega
    have hw0 : ((2 ^ j : Nat) : Int) ≠ 0 := by have : 0 < 2 ^ j := Nat.pow_pos (by decide); omega
    have hi2 : 2 * i + 1 < 2 ^ (j + 1) := by rw [Nat.pow_succ]; omega
    rw [halv_tay hw0 hu.nm, ← hp, show 2 * (i : Int) = ((2 * i : Nat) : Int) by omega] at hhalf
    have hw1 : ((2 ^ (j + 1) : Nat) : Int) ≠ 0 := by omega
    have zl := hu.sz (j + 1) (2 * i) (by omega) (by omega)
    have zr := hu.sz (j + 1) (2 * i + 1) (by omega) hi2
    have ll := tay_len (2 ^ (j + 1) : Nat) ((2 * i : Nat) : Int) u
    have hsh : ∀ y z, Meets Tryz.prog 77 [y, z] [(y, vd (tay (2 ^ (j + 1) : Nat) ((2 * i : Nat) : Int) u)), (z, zd 1)] (fun r os fs => os = [] ∧ fs = [(r, vd (tay (2 ^ (j + 1) : Nat) ((2 * i + 1 : Nat) : Int) u))]) := fun y z => by
      have := rShiftJ y z ((tay (2 ^ (j + 1) : Nat) ((2 * i : Nat) : Int) u).map cn) (cn 1) K 1 zl.fit h1K (Lim_lims _) (show (cn 1).2.length ≤ 1 from (sm5 1 (by decide)).len) (by decide) (by rw [List.length_map]; omega) (by rw [List.length_map]; omega)
      rw [vv_cn, jv_cn, shift_tay hw1 hu.nm, show ((2 * i : Nat) : Int) + 1 = ((2 * i + 1 : Nat) : Int) by omega] at this
      exact this
    have ih1 := ih (j + 1) (2 * i) (by omega) (by omega)
    have ih2 := ih (j + 1) (2 * i + 1) (by omega) hi2
    have hat : ∀ y, Meets Tryz.prog 78 [y, .int .i64 ((0 : Nat) : Int)] [(y, vd (tay (2 ^ (j + 1) : Nat) ((2 * i + 1 : Nat) : Int) u))] (fun r os fs => os = [] ∧ fs = [(r, zd ((tay (2 ^ (j + 1) : Nat) ((2 * i + 1 : Nat) : Int) u).getD 0 0))]) := fun y => by
      have := rAtN y ((tay (2 ^ (j + 1) : Nat) ((2 * i + 1 : Nat) : Int) u).map cn) (zr.fit.mono (by omega)) 0
      rw [vv_cn] at this
      exact this
    have hsg := fun y => rSignZ y ((tay (2 ^ (j + 1) : Nat) ((2 * i + 1 : Nat) : Int) u).getD 0 0) K (zr.get 0) (by omega)
    have hmid : (tay (2 ^ (j + 1) : Nat) ((2 * i + 1 : Nat) : Int) u).getD 0 0 = pev (tay (2 ^ (j + 1) : Nat) ((2 * i : Nat) : Int) u) 1 := by
      rw [← ev_at0, show ((2 * i + 1 : Nat) : Int) = ((2 * i : Nat) : Int) + 1 by omega, ← shift_tay hw1 hu.nm, ev_pshi]; rfl
    have hend := tay_end (w := ((2 ^ j : Nat) : Int)) (i := (i : Int)) hw0 u
    rw [← hp, show 2 * (i : Int) + 1 = ((2 * i + 1 : Nat) : Int) by omega] at hend
    have hjoin : ∀ c c' : Nat, CC u m (j + 1) ((2 * i : Nat) : Int) c → CC u m (j + 1) ((2 * i + 1 : Nat) : Int) c' → CC u m j i (c + c') := fun c c' h1 h2 => by
      rw [show ((2 * i : Nat) : Int) = 2 * (i : Int) by omega] at h1
      rw [show ((2 * i + 1 : Nat) : Int) = 2 * (i : Int) + 1 by omega] at h2
      exact h1.join h2
    obtain ⟨t, ht, htot⟩ := hu.tot
    have hle : ∀ c : Nat, CC u m j i c → c ≤ t := fun c h => h.le htot hi
    simp only [hend, ← hmid] at ih1 ih2
    generalize (tay (2 ^ (j + 1) : Nat) ((2 * i + 1 : Nat) : Int) u).getD 0 0 = mid at *
    generalize vs 0 (pshi 1 (tay (2 ^ j : Nat) i u).reverse) = n at *
    refine meets_of_vc Tryz.func40 (by kernel_rfl) rfl (by kernel_rfl) (Nat.le_of_ble_eq_true rfl) ?_
    refine call_fn hmay (Seals.refl _ _) qS ?_
    rintro _ _ _ ⟨rfl, rfl, rfl⟩
    refine cmp_split _ rfl (fun h2 => ?_) (fun h2 => ?_)
    · exact fin ⟨rfl, rfl, n, rfl, by omega, hcc (by omega)⟩ (Seals.nil _ _)
    refine call_fn hhalf (Seals.refl _ _) qS ?_
    rintro lv _ _ ⟨rfl, rfl⟩
    refine call_fn (rOf_meets 1 (by decide) (by decide)) (Seals.refl _ _) qS ?_
    rintro ov _ _ ⟨rfl, rfl⟩
    refine call_fn (hsh lv ov) (Seals.refl _ _) qS ?_
    rintro rv _ _ ⟨rfl, rfl⟩
    refine call_fn (ih1 lv) (Seals.refl _ _) qS ?_
    rintro _ _ _ ⟨rfl, rfl, c1, rfl, b1, k1⟩
    refine call_fn (ih2 rv) (Seals.refl _ _) qS ?_
    rintro _ _ _ ⟨rfl, rfl, c2, rfl, b2, k2⟩
    have k3 := hjoin _ _ k1 k2
    have k4 := hle _ k3
    refine ar rfl ⟨by omega, by omega⟩ ?_
    refine call_fn (hat rv) (Seals.refl _ _) qS ?_
    rintro av _ _ ⟨rfl, rfl⟩
    refine call_fn (hsg av) (Seals.refl _ _) qS ?_
    rintro _ _ _ ⟨rfl, rfl, rfl⟩
    refine cmp_split _ rfl (fun hz0 => ?_) (fun hz0 => ?_)
    · rw [if_pos (sgn0.1 hz0)] at k3 k4
      refine ar rfl ⟨by omega, by omega⟩ ?_
      refine fin ⟨rfl, rfl, c1 + c2 + 1, congrArg (Value.int .i64) (show (c1 : Int) + c2 + 1 = ((c1 + c2 + 1 : Nat) : Int) by omega), by omega, ?_⟩ (Seals.nil _ _)
      rw [show c1 + c2 + 1 + (if pev (tay (2 ^ j : Nat) i u) 1 = 0 then 1 else 0) = c1 + 1 + (c2 + if pev (tay (2 ^ j : Nat) i u) 1 = 0 then 1 else 0) by omega]
      exact k3
    · rw [if_neg fun h => hz0 (sgn0.2 h)] at k3 k4
      refine fin ⟨rfl, rfl, c1 + c2, congrArg (Value.int .i64) (show (c1 : Int) + c2 = ((c1 + c2 : Nat) : Int) by omega), by omega, ?_⟩ (Seals.nil _ _)
      rw [show c1 + c2 + (if pev (tay (2 ^ j : Nat) i u) 1 = 0 then 1 else 0) = c1 + 0 + (c2 + if pev (tay (2 ^ j : Nat) i u) 1 = 0 then 1 else 0) by omega]
      exact k3
open Go.RowKit
theorem tay_id {u : List Int} (h : Nm u) : tay ((2 ^ 0 : Nat) : Int) ((0 : Nat) : Int) u = u := by
  refine Nm.ext (tay_nm _ _ h) h fun x => ?_
  have h1 := tay_ev ((2 ^ 0 : Nat) : Int) ((0 : Nat) : Int) x u
  have h2 := gh_at 1 x u
  simp only [Int.one_mul, Int.one_pow] at h2
  have e1 : ((2 ^ 0 : Nat) : Int) = 1 := rfl
  have e2 : ((0 : Nat) : Int) + x = x := by omega
  rw [e1, e2, Int.one_mul, h2] at h1
  exact h1
theorem within_ev (s : List Int) (a m x : Int) : pev (pstr m (pshi a s)) x = pev s (a + m * x) := by rw [ev_pstr, ev_pshi, Int.add_comm]
theorem within_ne {s : List Int} {a m : Int} (hm : m ≠ 0) (h0 : 0 < dg s) : pstr m (pshi a s) ≠ [] := fun e => by
  have h1 : ∀ x, pev s (a + m * x) = 0 := fun x => by rw [← within_ev, e]; rfl
  have h2 := mult_ext hm (F := pshi a s) (G := []) (fun x => by rw [ev_pshi, Int.add_comm, h1]; rfl)
  have h3 := (dg_zero (l := s)).2 fun x => by
    have := h2 (x - a)
    rw [ev_pshi, show x - a + a = x by omega] at this
    rw [this]; rfl
  omega
theorem within_ok {s : List Int} {L : Nat → List Int} {r : Nat} {a : Int} {m : Nat} (hc : Chain L r) (he : L 0 = s) (hm : 1 ≤ m) (hz : szR 38 s) (hl : s.length ≤ 6) (h0 : 0 < dg s) (ha : sz a 1) (hmz : sz (m : Int) 2) (ht : rc s a (a + m) ≤ 1000) :
    szR 75 (pstr m (pshi a s)) ∧ (pstr m (pshi a s)).length ≤ 6 ∧ ∃ (J : Nat) (t : Nat), CC (pstr m (pshi a s)) m 0 0 t ∧ rc s a (a + m) = t ∧ UOk (pstr m (pshi a s)) m J (76 + J + 2) ∧ J ≤ 100000000 := by
  have h1 := (Lk.told hz hl).shi (a := a) (j := 1) ha (by decide)
  have h2 := h1.str (a := (m : Int)) (j := 2) hmz
  have hs : szR 75 (pstr m (pshi a s)) := h2.sz.mono (by decide)
  refine ⟨hs, h2.ll, ?_⟩
  obtain ⟨J, hJ1, hJ2⟩ : ∃ J, gbt 11 (64 * 76 + 10) + 64 * 76 + 30 ≤ J ∧ J ≤ 100000000 := ⟨_, Nat.le_refl _, by decide⟩
  obtain ⟨t, k1, k2, k3⟩ := uok (u := pstr m (pshi a s)) (k := 76) hc he hm (fun x => within_ev s a m x) (pstr_nm _ _) (within_ne (by omega) h0) h2.ll (hs.mono (by decide)) (hs.pder (by have := h2.ll; omega)) ht hJ1
  exact ⟨J, t, k1, k2, k3, hJ2⟩
theorem rfCount_meets (v w u : Value) (p : Row) (x y : Bool × List Nat) (n : Int) (hp : Fit 1 p) (lp : p.length ≤ 6) (hx : Lim x.2) (hxa : x.2.length ≤ 1) (hy : Lim y.2) (hya : y.2.length ≤ 1)
    (hch : 0 < dg (vv p) → jv x ≤ jv y → ∀ s, SimSpec (vv p) s → ∃ L r, Chain L r ∧ L 0 = s ∧ rc s (jv x) (jv y) = n ∧ n ≤ 1000) :
    Meets Tryz.prog 11 [v, w, u] [(v, V p), (w, J x), (u, J y)] (fun r os fs => os = [] ∧ fs = [] ∧ ∃ c e, r = .tuple #[.int .i64 c, .int .i64 e] ∧ (dg (vv p) = 0 ∨ jv y < jv x → c = 0 ∧ e = 1) ∧ (0 < dg (vv p) → jv x ≤ jv y → c = n ∧ e = 0)) := by
  have hdeg := rDegreeN v p (hp.mono (by decide))
  have hsim := rSimple_meets v p 1 6 hp (by decide) lp (by decide) (by decide) (by decide)
  refine meets_of_vc Tryz.func11 (by kernel_rfl) rfl (by kernel_rfl) (Nat.le_of_ble_eq_true rfl) ?_
  refine box_rule (Reads.fact (d := J x) qM) fun lb hlb => ?_
  refine box_rule (Reads.fact (d := J y) qM) fun ub hub => ?_
  refine call_fn hdeg (Seals.refl _ _) qS ?_
  rintro _ _ _ ⟨rfl, rfl, rfl⟩
  refine cmp_split _ rfl (fun hd0 => ?_) (fun hd0 => ?_)
  · exact fin ⟨rfl, rfl, 0, 1, rfl, fun _ => ⟨rfl, rfl⟩, fun h => by omega⟩ (Seals.trans (Seals.drop 0 _ _) (Seals.trans (Seals.drop 0 _ _) (Seals.nil _ _)))
  have hd : 0 < dg (vv p) := by omega
  refine load_box (d := J y) 0 rfl hub rfl (load_J _) fun y1 => ?_
  refine load_box (d := J x) 1 rfl hlb rfl (load_J _) fun y2 => ?_
  refine call_fn (rCmpJ6 y1 y2 y x 1 hy hya hx hxa (by decide)) (Seals.refl _ _) qS ?_
  rintro _ _ _ ⟨rfl, rfl, rfl⟩
  refine cmp_split _ rfl (fun hlt => ?_) (fun hlt => ?_)
  · have := sgn_lt.1 hlt
    exact fin ⟨rfl, rfl, 0, 1, rfl, fun _ => ⟨rfl, rfl⟩, fun _ h => by omega⟩ (Seals.trans (Seals.drop 0 _ _) (Seals.trans (Seals.drop 0 _ _) (Seals.nil _ _)))
  have hxy : jv x ≤ jv y := Int.not_lt.1 fun h => hlt (sgn_lt.2 (by omega))
  refine load_box (d := J x) 1 rfl hlb rfl (load_J _) fun y3 => ?_
  refine load_box (d := J y) 0 rfl hub rfl (load_J _) fun y4 => ?_
  refine call_fn (rCmpJ6 y3 y4 x y 1 hx hxa hy hya (by decide)) (Seals.refl _ _) qS ?_
  rintro _ _ _ ⟨rfl, rfl, rfl⟩
  refine cmp_split _ rfl (fun heq => ?_) (fun heq => ?_)
  · have hz : jv x = jv y := by have := sgn0.1 heq; omega
    refine fin ⟨rfl, rfl, 0, 0, rfl, fun h => by omega, fun _ _ => ⟨?_, rfl⟩⟩ (Seals.trans (Seals.drop 0 _ _) (Seals.trans (Seals.drop 0 _ _) (Seals.nil _ _)))
    obtain ⟨g, hg⟩ := gc_exists (pprim (vv p)) (pder (pprim (vv p)))
    obtain ⟨s, hs⟩ : ∃ s, SimSpec (vv p) s := by
      obtain ⟨z, hz⟩ := hg.1
      exact ⟨nrm z, nrm_nrm _, fun h => by omega, fun _ => ⟨g, hg, fun x => by rw [ev_nrm, hz]⟩⟩
    obtain ⟨L, r, h1, h2, h3, _⟩ := hch hd hxy s hs
    rw [← h3, hz, rc_self h1 h2]
  have hm0 : jv x < jv y := by
    rcases Int.lt_or_eq_of_le hxy with h | h
    · exact h
    · exact absurd (sgn0.2 (show jv x - jv y = 0 by omega)) heq
  refine call_fn hsim (Seals.refl _ _) qS ?_
  rintro sv _ _ ⟨rfl, s, hs, zs, rfl⟩
  obtain ⟨L, r, hc, he, hrc, hn⟩ := hch hd hxy s hs
  have hsl := (sim_sz (n := 6) hp.szR (by rw [vv_len]; exact lp) (by decide) hs).2
  have hsd : 0 < dg s := by
    obtain ⟨g, _, hg⟩ := hs.ok hd
    exact (Dv.deg (a := s) (b := pprim (vv p)) ⟨g, fun x => by rw [hg]; exact Int.mul_comm _ _⟩ (by rw [pprim_dg]; exact hd)).1
  obtain ⟨m, hm⟩ : ∃ m : Nat, jv y - jv x = m := ⟨(jv y - jv x).toNat, by omega⟩
  have hmz : sz (m : Int) 2 := by rw [← hm]; exact sz_sub (sz_jv hy hya) (sz_jv hx hxa)
  have hyx : jv y = jv x + m := by omega
  have hrc' := hrc
  rw [hyx] at hrc'
  obtain ⟨z75, l6, J', t, hcc, hrt, hok, hJ⟩ := within_ok (m := m) hc he (by omega) (zs.mono (by decide)) hsl hsd (sz_jv hx hxa) hmz (by omega)
  have hwi : ∀ y1 y2, Meets Tryz.prog 41 [sv, y1, y2] [(sv, vd s), (y1, J x), (y2, J y)] (fun r os fs => os = [] ∧ fs = [(r, vd (pstr m (pshi (jv x) s)))]) := fun y1 y2 => by
    have := within_meets sv y1 y2 (s.map cn) x y (dvk 1 6) 1 zs.fit (by decide) hx hxa hy hya (by decide) (by rw [List.length_map]; omega) (by decide)
    rw [vv_cn, hm] at this
    exact this
  have hun : ∀ z, Meets Tryz.prog 40 [z] [(z, vd (pstr m (pshi (jv x) s)))] (fun r os fs => os = [] ∧ fs = [] ∧ ∃ c : Nat, r = .int .i64 (c : Int) ∧ c ≤ 1000 ∧ (t : Int) = c + if pev s (jv y) = 0 then 1 else 0) := fun z => by
    have := unit_meets hok (by omega) (by omega) J' 0 0 (by omega) (by decide) z
    rw [tay_id (pstr_nm _ _), within_ev, Int.mul_one, ← hyx] at this
    refine this.mono fun r os fs ⟨h1, h2, c, h3, h4, h5⟩ => ⟨h1, h2, c, h3, h4, ?_⟩
    have := h5.unique hcc
    rw [← this]
    split <;> simp
  have hsg : ∀ y1, Meets Tryz.prog 14 [sv, y1] [(sv, vd s), (y1, J y)] (fun r os fs => os = [] ∧ fs = [] ∧ r = .int .i64 (pev s (jv y)).sign) := fun y1 => by
    have hle : dvk 1 6 ≤ 1000 := by decide
    have := rfSign_meets sv y1 (s.map cn) y (dvk 1 6) 1 zs.fit hy hya (by rw [List.length_map]; omega) (by rw [List.length_map]; omega)
    rw [vv_cn] at this
    exact this
  generalize pstr m (pshi (jv x) s) = U at *
  refine load_box (d := J x) 1 rfl hlb rfl (load_J _) fun y5 => ?_
  refine load_box (d := J y) 0 rfl hub rfl (load_J _) fun y6 => ?_
  refine call_fn (hwi y5 y6) (Seals.refl _ _) qS ?_
  rintro uv _ _ ⟨rfl, rfl⟩
  refine call_fn (hun uv) (Seals.refl _ _) qS ?_
  rintro _ _ _ ⟨rfl, rfl, c, rfl, hc1, hct⟩
  refine load_box (d := J y) 0 rfl hub rfl (load_J _) fun y7 => ?_
  refine call_fn (hsg y7) (Seals.refl _ _) qS ?_
  rintro _ _ _ ⟨rfl, rfl, rfl⟩
  refine cmp_split _ rfl (fun hz => ?_) (fun hz => ?_)
  · rw [if_pos (sgn0.1 hz)] at hct
    refine ar rfl qI ?_
    exact fin ⟨rfl, rfl, (c : Int) + 1, 0, rfl, fun h => by omega, fun _ _ => ⟨by omega, rfl⟩⟩ (Seals.trans (Seals.drop 0 _ _) (Seals.trans (Seals.drop 0 _ _) (Seals.nil _ _)))
  · rw [if_neg fun h => hz (sgn0.2 h)] at hct
    exact fin ⟨rfl, rfl, (c : Int), 0, rfl, fun h => by omega, fun _ _ => ⟨by omega, rfl⟩⟩ (Seals.trans (Seals.drop 0 _ _) (Seals.trans (Seals.drop 0 _ _) (Seals.nil _ _)))
open Go.RowKit
set_option maxHeartbeats 4000000 in
theorem rtells_meets (v w u : Value) (p : Row) (x y : Bool × List Nat) (hp : limR p) (hx : Lim x.2) (hy : Lim y.2) :
    Meets Tryz.prog 3 [v, w, u] [(v, V p), (w, J x), (u, J y)] (fun r os fs => os = [] ∧ fs = [] ∧ r = .bool true) := by
  refine meets_of_vc Tryz.func3 (by kernel_rfl) rfl (by kernel_rfl) (Nat.le_of_ble_eq_true rfl) ?_
  refine box_rule (Reads.fact (d := J x) qM) fun lb hlb => ?_
  refine box_rule (Reads.fact (d := J y) qM) fun ub hub => ?_
  refine call_fn shown5_meets (Seals.refl _ _) qS ?_
  rintro _ _ _ ⟨rfl, rfl, rfl⟩
  refine call_fn (little5_meets v p) (Seals.refl _ _) qS ?_
  rintro _ _ _ ⟨rfl, rfl, rfl⟩
  by_cases hs : smallR 6 1 p
  case neg =>
    rw [decide_eq_false hs]
    exact fin ⟨rfl, rfl, rfl⟩ (Seals.trans (Seals.drop 0 _ _) (Seals.trans (Seals.drop 0 _ _) (Seals.nil _ _)))
  rw [decide_eq_true hs]
  refine field_box 1 rfl hlb ?_
  refine load_box_field 1 rfl (Part.right (Part.refl _)) (load_L _) fun u1 => ?_
  refine len_fact (v := u1) qM fun _ => ?_
  refine cmp_split _ rfl (fun hgt => ?_) (fun hgt => ?_)
  ·
    exact fin ⟨rfl, rfl, rfl⟩ (Seals.trans (Seals.drop 0 _ _) (Seals.trans (Seals.drop 0 _ _) (Seals.nil _ _)))
  have hx1 : x.2.length ≤ 1 := by omega
  refine field_box 0 rfl hub ?_
  refine load_box_field 0 rfl (Part.right (Part.refl _)) (load_L _) fun u1 => ?_
  refine len_fact (v := u1) qM fun _ => ?_
  refine cmp_split _ rfl (fun hgt2 => ?_) (fun hgt2 => ?_)
  ·
    exact fin ⟨rfl, rfl, rfl⟩ (Seals.trans (Seals.drop 0 _ _) (Seals.trans (Seals.drop 0 _ _) (Seals.nil _ _)))
  have hy1 : y.2.length ≤ 1 := by omega
  have hf := hs.fit hp
  have hl := hs.1
  refine call_fn (rOwn_meets v p (by omega) fun x hx => by have := hs.2 x hx; omega) (Seals.refl _ _) qS ?_
  rintro ov _ _ ⟨rfl, hov, rfl⟩
  have hct := fun z1 z2 => count_meets ov z1 z2 p x y 1 6 1 hf hl hx hx1 hy hy1 (ok6.1.of hf hl)
  have hcr := fun z1 z2 n => rfCount_meets v z1 z2 p x y n hf hl hx hx1 hy hy1
  have hb1 := bound_meets ov p 1 hf (by decide) (by decide) (by omega)
  have hb2 := rfBound_meets v p 1 hf (by decide) (by decide) (by omega)
  have hs1 := fun z => rtSign_meets ov z p x 1 1 hf hx hx1 (by omega) (by omega)
  have hs2 := fun z => rfSign_meets v z p x 1 1 hf hx hx1 (by omega) (by omega)
  have hsame : ∀ c1 e1 c2 e2, CntSpec (vv p) (jv x) (jv y) c1 e1 → (dg (vv p) = 0 ∨ jv y < jv x → c2 = 0 ∧ e2 = 1) → (0 < dg (vv p) → jv x ≤ jv y → c2 = c1 ∧ e2 = 0) → c1 = c2 ∧ e1 = e2 := fun c1 e1 c2 e2 h1 h2 h3 => by
    by_cases g : dg (vv p) = 0 ∨ jv y < jv x
    · obtain ⟨rfl, rfl⟩ := h1.bad g
      obtain ⟨rfl, rfl⟩ := h2 g
      exact ⟨rfl, rfl⟩
    · obtain ⟨k1, _⟩ := h1.ok (by omega) (by omega)
      obtain ⟨k2, k3⟩ := h3 (by omega) (by omega)
      exact ⟨k2.symm, by rw [k1, k3]⟩
  have hchain : ∀ c1 e1, CntSpec (vv p) (jv x) (jv y) c1 e1 → 0 < dg (vv p) → jv x ≤ jv y → ∀ s, SimSpec (vv p) s → ∃ L r, Chain L r ∧ L 0 = s ∧ rc s (jv x) (jv y) = c1 ∧ c1 ≤ 1000 := fun c1 e1 h1 hd hxy s hs => by
    obtain ⟨_, s', k1, _, k2, _, k4, L, r, k5, k6⟩ := h1.ok hd hxy
    obtain rfl := hs.unique k1
    have := (sim_sz (n := 6) hf.szR (by rw [vv_len]; exact hl) (by decide) hs).2
    rw [← dg_nm hs.sn] at this
    exact ⟨L, r, k5, k6, k2.symm, by omega⟩
  generalize (if dg (vv p) = 0 then (1 : Int) else 0) = E at *
  generalize (if dg (vv p) = 0 then (0 : Int) else rbnd (vv p)) = B at *
  generalize (pev (vv p) (jv x)).sign = S at *
  refine loop_rule (X := Nat) (fun i => ([(0, v), (4, lb), (5, ub), (7, .bool true), (8, ov), (9, .int .i64 (i : Nat))], [own1 ub 2 1 (fun _ => J y), own1 lb 2 1 (fun _ => J x)], [(ov, V p), (v, V p)]))
    (fun i => i ≤ 2) (fun i => 2 - i) rfl ?_ ?_
  · exact again 0 (Nat.zero_le _) trivial qF (Seals.trans (Seals.L 0 rfl hov) (Seals.sub qS))
  rintro i hi
  refine cmp_split _ rfl (fun hlt => ?_) (fun hlt => ?_)
  · refine call_fn hb1 (Seals.refl _ _) qS ?_
    rintro _ _ _ ⟨rfl, q1, rfl, rfl⟩
    refine alloc_rule (d := I false []) fun b1 hb1' => ?_
    refine store_box (d := zd B) 0 rfl hb1' rfl (by kernel_rfl) (Reads.fact (v := q1) qM) ?_
    refine call_fn hb2 (Seals.refl _ _) qS ?_
    rintro _ _ _ ⟨rfl, q2, rfl, rfl⟩
    refine alloc_rule (d := I false []) fun b2 hb2' => ?_
    refine store_box (d := zd B) 0 rfl hb2' rfl (by kernel_rfl) (Reads.fact (v := q2) qM) ?_
    refine load_box (d := J x) 3 rfl hlb rfl (load_J _) fun a1 => ?_
    refine load_box (d := J y) 2 rfl hub rfl (load_J _) fun a2 => ?_
    refine call_fn (hct a1 a2) (Seals.refl _ _) qS ?_
    rintro _ _ _ ⟨rfl, rfl, c1, e1, rfl, hC1⟩
    refine load_box (d := J x) 3 rfl hlb rfl (load_J _) fun a3 => ?_
    refine load_box (d := J y) 2 rfl hub rfl (load_J _) fun a4 => ?_
    refine call_fn (hcr a3 a4 c1 (hchain c1 e1 hC1)) (Seals.refl _ _) qS ?_
    rintro _ _ _ ⟨rfl, rfl, c2, e2, rfl, hC2, hC3⟩
    obtain ⟨rfl, rfl⟩ := hsame c1 e1 c2 e2 hC1 hC2 hC3
    refine draw_rule [0, 1, 2, 3, 4, 5, 6, 7, 8, 9, 10, 11, 12, 13, 14, 15, 16, 17, 18, 19, 20, 21, 23, 24, 22, 25, 26, 27] [0, 1, 2, 3, 4, 5, 6, 7, 8, 9, 10, 11, 12, 13, 14, 15, 16, 17, 18, 19, 20, 21, 22, 23, 24, 25, 26, 27] (by kernel_rfl) (by kernel_rfl) ?_
    refine load_box (d := zd B) 1 rfl hb1' rfl (load_I _ _) fun a5 => ?_
    refine load_box (d := zd B) 0 rfl hb2' rfl (load_I _ _) fun a6 => ?_
    refine call_fn (ex5T a5 a6 _ _ rfl) (Seals.refl _ _) qS ?_
    rintro _ _ _ ⟨rfl, rfl, rfl⟩
    refine cmp_false rfl (fun h => h rfl) ?_
    refine cmp_false rfl (fun h => h rfl) ?_
    refine cmp_false rfl (fun h => h rfl) ?_
    refine load_box (d := J x) 3 rfl hlb rfl (load_J _) fun a7 => ?_
    refine load_box (d := J x) 3 rfl hlb rfl (load_J _) fun a8 => ?_
    refine call_fn (hs1 a7) (Seals.refl _ _) qS ?_
    rintro _ _ _ ⟨rfl, rfl, rfl⟩
    refine call_fn (hs2 a8) (Seals.refl _ _) qS ?_
    rintro _ _ _ ⟨rfl, rfl, rfl⟩
    refine cmp_false rfl (fun h => h rfl) ?_
    refine ar rfl qI ?_
    exact again (i + 1) (by omega) (by simp only; omega) qF (Seals.trans (Seals.drop 0 _ _) (Seals.trans (Seals.drop 0 _ _) (Seals.sub qS)))
  · refine call_fn (exactAll_meets ov v p p) (Seals.refl _ _) qS ?_
    rintro _ _ _ ⟨rfl, rfl, rfl⟩
    rw [decide_eq_true rfl]
    exact fin ⟨rfl, rfl, rfl⟩ (Seals.trans (Seals.drop 0 _ _) (Seals.trans (Seals.drop 0 _ _) (Seals.nil _ _)))
end Go.Proofs.YtgpcepcbdpigfaaGreat
namespace Go.Proofs.YtgpcepcbdpigfaaGreat
open Go.ChangeShapes Go.WideShapes Go.ChangeAt Go.RowKit
open Go.Joins (open_agg2)
set_option maxRecDepth 100000 in
theorem rootsTells_lifted (os : Os) (started : os.Started) (H : Type) (enc : TypeId × Value → H) :
    ReturnsInHanded {} Tryz.checked os 3 .any (Rows.rootsTellsSpec.pre6 enc Tryz.prog Tryz.f3 Rows.rootsTellsRow.domain false) (Rows.rootsTellsSpec.post enc Tryz.prog Tryz.f3 false true false false) := by
  refine returnsInHanded_of_change (C := Tryz.checked) own0 started (by kernel_rfl) Tryz.func3
    (ChangeSpec.witness6 (enc := enc) (C := Tryz.checked) false ⟨#[], #[.slice none 0 0, .agg #[.bool false, .slice none 0 0], .agg #[.bool false, .slice none 0 0]], []⟩ 8 (by kernel_rfl) (by kernel_rfl) (by kernel_rfl) (by kernel_rfl)) ?_
  intro Wd base args ds gs before hval0 hW hcnd _
  have hval : ∀ (j : Nat) t v, Tryz.f3.params[j]? = some t → args[j]? = some v → Value.okWide Tryz.prog Wd .any base t v := hval0
  have hW' := hW
  obtain ⟨p, q, hA0, hV, rfl, hfz, hnd⟩ := hW
  have hA : DataW.TrodAll enc Tryz.prog Wd 0 (fun _ => true) true Tryz.f3.params.toList args.toList ds p := hA0
  rw [Tryz.params3] at hA hval
  obtain ⟨v0, vs0, d0, ds0, p0, q0, hargs, rfl, rfl, h0, r0⟩ := trodAll_cons hA
  obtain ⟨v1, vs1, d1, ds1, p1, q1, rfl, rfl, rfl, h1, r1⟩ := trodAll_cons r0
  obtain ⟨v2, vs2, d2, ds2, p2, q2, rfl, rfl, rfl, h2, r2⟩ := trodAll_cons r1
  obtain ⟨rfl, rfl, rfl⟩ := trodAll_nil r2
  obtain rfl : args = #[v0, v1, v2] := by cases args; simp_all
  obtain ⟨rfl, rfl⟩ := trodVars_none hV
  obtain ⟨a0, n0, c0, rfl⟩ := okWide_slice Tryz.underlying23 (hval 0 23 v0 rfl rfl)
  have k0 := h0
  have lt0 : ∀ x ∈ p0, x.block < Wd.heap.size := by obtain ⟨m, hm⟩ := k0; exact DataW.trod_lt m _ _ _ hm
  obtain ⟨m0, lm0, rd0⟩ : ∃ m, limR m ∧ Rd (fun b => b < Wd.heap.size) Wd (.slice a0 n0 c0) (V m) := by
    obtain ⟨fuel, hf⟩ := h0
    obtain ⟨m, e1, e2⟩ := rd_poly hf
    exact ⟨m, e1, rd_val rfl e2⟩
  have k1 := h1
  have lt1 : ∀ x ∈ p1, x.block < Wd.heap.size := by obtain ⟨m, hm⟩ := k1; exact DataW.trod_lt m _ _ _ hm
  obtain ⟨m1, lm1, rd1⟩ : ∃ m : Bool × List Nat, Lim m.2 ∧ Rd (fun b => b < Wd.heap.size) Wd v1 (J m) := rd_arg (hval 1 26 v1 rfl rfl) h1
  have k2 := h2
  have lt2 : ∀ x ∈ p2, x.block < Wd.heap.size := by obtain ⟨m, hm⟩ := k2; exact DataW.trod_lt m _ _ _ hm
  obtain ⟨m2, lm2, rd2⟩ : ∃ m : Bool × List Nat, Lim m.2 ∧ Rd (fun b => b < Wd.heap.size) Wd v2 (J m) := rd_arg (hval 2 26 v2 rfl rfl) h2
  clear hA0 hval0
  refine (calls_of_meets (w := Wd) (rtells_meets (.slice a0 n0 c0) v1 v2 m0 m1 m2 lm0 lm1 lm2) ?_).mono fun e W2 ⟨he, bel⟩ => ?_
  · intro F hF
    simp only [List.mem_cons, List.not_mem_nil, or_false] at hF
    rcases hF with rfl | rfl | rfl
    · exact rd0
    · exact rd1
    · exact rd2
  subst he
  exact ⟨_, rfl, _, _, _, [], _, [], hW', trodAll_mk1 (shut_bool Tryz.underlying4 _), (trodAll_cons_mk (Below.trod laid0 (by kernel_rfl) (of_decide_eq_true (by kernel_rfl)) k0 bel lt0) (trodAll_cons_mk (Below.trod laid0 (by kernel_rfl) (of_decide_eq_true (by kernel_rfl)) k1 bel lt1) (trodAll_cons_mk (Below.trod laid0 (by kernel_rfl) (of_decide_eq_true (by kernel_rfl)) k2 bel lt2) trodAll_mk0))), rfl, bel.frame _, fun h => by cases h⟩
theorem rootsTells_holds : Rows.RootsTellsSaid :=
  OpenClaim.holds_of_wide 3 Tryz.f3 rfl rfl rfl rfl rfl rfl rfl ⟨rfl, rfl, rfl, rfl, rfl⟩ rfl rfl rfl rfl rfl (by kernel_rfl) Tryz.func3 (by kernel_rfl)
    (of_decide_eq_true (by kernel_rfl)) (by unfold Func.isWrapper; first | (rw [if_pos (by decide +kernel)]; kernel_rfl) | (rw [if_neg (by decide +kernel)]; exact ⟨rfl, rfl⟩))
    (fun os started H enc _ => rootsTells_lifted os started H enc)
#print axioms rootsTells_holds
end Go.Proofs.YtgpcepcbdpigfaaGreat
