/- The law RootsFloors is true of each input, and changes none. No condition. -/
import Derived.Test.YtgpcepcbdpigfaaM4
import Derived.Test.YtgpcepcbdpigfaaRows
import Derived.OpenShut
import Derived.Below
import Derived.Lib.SmallJoins
set_option linter.unusedVariables false
set_option linter.unusedSimpArgs false
namespace Go.Proofs.Ytgpcepcbdpigfaa
open Go.RowKit
theorem rCmpJ5 (v w : Value) (x y : Bool × List Nat) (a : Nat) (hx : Lim x.2) (lx : x.2.length ≤ a) (hy : Lim y.2) (ly : y.2.length ≤ a) (ha : a ≤ 137438953471) :
    Meets Try.prog 16 [v, w] [(v, J x), (w, J y)] (fun r os fs => os = [] ∧ fs = [] ∧ r = .int .i64 (jv x - jv y).sign) := by
  have h : ∀ y1 y2, Meets Try.prog 38 [y1, y2] [(y1, J x), (y2, J y)] (fun r os fs => os = [] ∧ fs = [(r, zd (jv x - jv y))]) := fun y1 y2 => rZSub_meets y1 y2 x.1 y.1 x.2 y.2 hx hy (by omega) (by omega)
  have hd : sz (jv x - jv y) (a + 1) := sz_sub (sz_jv hx lx) (sz_jv hy ly)
  have hs := fun z => rSign_meets z (decide (jv x - jv y < 0)) (lims (jv x - jv y).natAbs) (Lim_lims _) (Nat.le_trans hd.len (by omega))
  simp only [iv_zd] at hs
  refine meets_of_vc Try.func16 (by kernel_rfl) rfl (by kernel_rfl) (Nat.le_of_ble_eq_true rfl) ?_
  refine box_rule (Reads.fact (d := J x) qM) fun p hp => ?_
  refine box_rule (Reads.fact (d := J y) qM) fun q hq => ?_
  refine load_box (d := J x) 1 rfl hp rfl (load_J _) fun y1 => ?_
  refine load_box (d := J y) 0 rfl hq rfl (load_J _) fun y2 => ?_
  refine call_fn (h y1 y2) (Seals.refl _ _) qS ?_
  rintro z _ _ ⟨rfl, rfl⟩
  refine call_fn (hs z) (Seals.refl _ _) qS ?_
  rintro _ _ _ ⟨rfl, rfl, rfl⟩
  exact fin ⟨rfl, rfl, rfl⟩ (Seals.trans (Seals.drop 0 _ _) (Seals.trans (Seals.drop 0 _ _) (Seals.nil _ _)))
def inB (t : Int) (O : List Int) (i : Nat) : Bool := (O.take i).any fun a => decide (a = t)
theorem inB_succ {t : Int} {O : List Int} {i : Nat} (h : i < O.length) : inB t O (i + 1) = (inB t O i || decide (O.getD i 0 = t)) := by
  unfold inB
  rw [List.take_add_one, List.getElem?_eq_getElem h, List.any_append]
  have : O.getD i 0 = O[i] := by rw [List.getD_eq_getElem?_getD, List.getElem?_eq_getElem h]; rfl
  rw [this]; simp
theorem inB_all (t : Int) (O : List Int) : inB t O O.length = decide (t ∈ O) := by
  unfold inB
  rw [List.take_length]
  by_cases h : t ∈ O
  · rw [decide_eq_true h]; exact List.any_eq_true.2 ⟨t, h, by simp⟩
  · rw [decide_eq_false h]
    refine Bool.eq_false_iff.2 fun g => h ?_
    obtain ⟨a, ha, e⟩ := List.any_eq_true.1 g
    rw [← of_decide_eq_true e]; exact ha
set_option maxHeartbeats 4000000 in
theorem rfloors_meets (v w u t : Value) (p : Row) (x y z : Bool × List Nat) (hp : limR p) (hx : Lim x.2) (hy : Lim y.2) (hz : Lim z.2) :
    Meets Try.prog 6 [v, w, u, t] [(v, V p), (w, J x), (u, J y), (t, J z)] (fun r os fs => os = [] ∧ fs = [] ∧ r = .bool true) := by
  refine meets_of_vc Try.func6 (by kernel_rfl) rfl (by kernel_rfl) (Nat.le_of_ble_eq_true rfl) ?_
  refine box_rule (Reads.fact (d := J x) qM) fun lb hlb => ?_
  refine box_rule (Reads.fact (d := J y) qM) fun ub hub => ?_
  refine box_rule (Reads.fact (d := J z) qM) fun tb htb => ?_
  refine call_fn shown5_meets (Seals.refl _ _) qS ?_
  rintro _ _ _ ⟨rfl, rfl, rfl⟩
  refine call_fn (rFits_meets v p 5 1) (Seals.refl _ _) qS ?_
  rintro _ _ _ ⟨rfl, rfl, rfl⟩
  by_cases hs : smallR 5 1 p
  case neg =>
    rw [decide_eq_false (show ¬ (p.length ≤ 5 ∧ ∀ x, x ∈ p → x.2.length ≤ 1) from hs)]
    exact fin ⟨rfl, rfl, rfl⟩ (Seals.trans (Seals.drop 0 _ _) (Seals.trans (Seals.drop 0 _ _) (Seals.trans (Seals.drop 0 _ _) (Seals.nil _ _))))
  rw [decide_eq_true (show p.length ≤ 5 ∧ ∀ x, x ∈ p → x.2.length ≤ 1 from hs)]
  refine field_box 2 rfl hlb ?_
  refine load_box_field 2 rfl (Part.right (Part.refl _)) (load_L _) fun u1 => ?_
  refine len_fact (v := u1) qM fun _ => ?_
  refine cmp_split _ rfl (fun hgt => ?_) (fun hgt => ?_)
  ·
    exact fin ⟨rfl, rfl, rfl⟩ (Seals.trans (Seals.drop 0 _ _) (Seals.trans (Seals.drop 0 _ _) (Seals.trans (Seals.drop 0 _ _) (Seals.nil _ _))))
  have hx1 : x.2.length ≤ 1 := by omega
  refine field_box 1 rfl hub ?_
  refine load_box_field 1 rfl (Part.right (Part.refl _)) (load_L _) fun u1 => ?_
  refine len_fact (v := u1) qM fun _ => ?_
  refine cmp_split _ rfl (fun hgt2 => ?_) (fun hgt2 => ?_)
  ·
    exact fin ⟨rfl, rfl, rfl⟩ (Seals.trans (Seals.drop 0 _ _) (Seals.trans (Seals.drop 0 _ _) (Seals.trans (Seals.drop 0 _ _) (Seals.nil _ _))))
  have hy1 : y.2.length ≤ 1 := by omega
  refine field_box 0 rfl htb ?_
  refine load_box_field 0 rfl (Part.right (Part.refl _)) (load_L _) fun u1 => ?_
  refine len_fact (v := u1) qM fun _ => ?_
  refine cmp_split _ rfl (fun hgt3 => ?_) (fun hgt3 => ?_)
  ·
    exact fin ⟨rfl, rfl, rfl⟩ (Seals.trans (Seals.drop 0 _ _) (Seals.trans (Seals.drop 0 _ _) (Seals.trans (Seals.drop 0 _ _) (Seals.nil _ _))))
  have hz1 : z.2.length ≤ 1 := by omega
  have hf := hs.fit hp
  have hl : p.length ≤ 6 := by have := hs.1; omega
  refine call_fn (pDegreeN v p (hf.mono (by decide))) (Seals.refl _ _) qS ?_
  rintro _ _ _ ⟨rfl, rfl, rfl⟩
  refine cmp_split _ rfl (fun hd0 => ?_) (fun hd0 => ?_)
  ·
    exact fin ⟨rfl, rfl, rfl⟩ (Seals.trans (Seals.drop 0 _ _) (Seals.trans (Seals.drop 0 _ _) (Seals.trans (Seals.drop 0 _ _) (Seals.nil _ _))))
  have hd : 0 < dg (vv p) := by omega
  refine load_box (d := J x) 2 rfl hlb rfl (load_J _) fun y1 => ?_
  refine load_box (d := J z) 0 rfl htb rfl (load_J _) fun y2 => ?_
  refine call_fn (rCmpJ5 y1 y2 x z 1 hx hx1 hz hz1 (by decide)) (Seals.refl _ _) qS ?_
  rintro _ _ _ ⟨rfl, rfl, rfl⟩
  refine cmp_split _ rfl (fun hc1 => ?_) (fun hc1 => ?_)
  ·
    exact fin ⟨rfl, rfl, rfl⟩ (Seals.trans (Seals.drop 0 _ _) (Seals.trans (Seals.drop 0 _ _) (Seals.trans (Seals.drop 0 _ _) (Seals.nil _ _))))
  have h1 : jv x ≤ jv z := by
    refine Int.not_lt.1 fun h => hc1 ?_
    rw [sgn_pos (show 0 < jv x - jv z by omega)]; decide
  refine load_box (d := J z) 0 rfl htb rfl (load_J _) fun y3 => ?_
  refine load_box (d := J y) 1 rfl hub rfl (load_J _) fun y4 => ?_
  refine call_fn (rCmpJ5 y3 y4 z y 1 hz hz1 hy hy1 (by decide)) (Seals.refl _ _) qS ?_
  rintro _ _ _ ⟨rfl, rfl, rfl⟩
  refine cmp_split _ rfl (fun hc2 => ?_) (fun hc2 => ?_)
  ·
    exact fin ⟨rfl, rfl, rfl⟩ (Seals.trans (Seals.drop 0 _ _) (Seals.trans (Seals.drop 0 _ _) (Seals.trans (Seals.drop 0 _ _) (Seals.nil _ _))))
  have h2 : jv z ≤ jv y := by
    refine Int.not_lt.1 fun h => hc2 ?_
    rw [sgn_pos (show 0 < jv z - jv y by omega)]; decide
  have zz : sz (jv z) 1 := sz_jv hz hz1
  have zz1 : sz (jv z + 1) 2 := by
    have := sz_sub zz (sm5 1 (by decide)).neg
    rwa [Int.sub_neg] at this
  have hadd : ∀ r1 r2, Meets Try.prog 11 [r1, r2] [(r1, J z), (r2, zd 1)] (fun r os fs => os = [] ∧ fs = [(r, zd (jv z + 1))]) := fun r1 r2 => by
    have := rAddJ r1 r2 z (cn 1) hz (by omega) (Lim_lims _) (Nat.le_trans (sm5 1 (by decide)).len (by decide))
    rw [jv_cn] at this
    exact this
  refine load_box (d := J x) 2 rfl hlb rfl (load_J _) fun y5 => ?_
  refine load_box (d := J y) 1 rfl hub rfl (load_J _) fun y6 => ?_
  refine call_fn (floors_meets v y5 y6 p x y 1 6 1 hf hl hx hx1 hy hy1 (by decide) (by decide) ok6.2.1) (Seals.refl _ _) qS ?_
  rintro _ _ _ ⟨rfl, q, O, e, rfl, hO, rfl⟩
  refine draw_join (X := Value) (fun hb => ([(0, v), (5, lb), (6, ub), (7, tb), (9, .bool true), (10, q), (11, .int .i64 e), (12, hb)], [own1 tb 2 1 (fun _ => J z), own1 ub 2 1 (fun _ => J y), own1 lb 2 1 (fun _ => J x)], [(hb, .ptr (zd (jv z + 1))), (q, vd O), (v, V p)])) (fun _ => True) ?_ ?_
  ·
    refine draw_ord [0, 1, 2, 3, 4] (by kernel_rfl) ?_
    refine ord_split 1 3 (by kernel_rfl) (by kernel_rfl) (by kernel_rfl) ?_ ?_
    · refine ord_split 2 3 (by kernel_rfl) (by kernel_rfl) (by kernel_rfl) ?_ ?_
      · refine ord_go [0, 1, 2, 3, 4] (by kernel_rfl) (by kernel_rfl) ?_
        refine load_box (d := J z) 0 rfl htb rfl (load_J _) fun r1 => ?_
        refine call_fn (num5_meets 1 (by decide) (by decide)) (Seals.refl _ _) qS ?_
        rintro r2 _ _ ⟨rfl, rfl⟩
        refine call_fn (hadd r1 r2) (Seals.refl _ _) qS ?_
        rintro r3 _ _ ⟨rfl, rfl⟩
        refine alloc_rule (d := I false []) fun hb hhb => ?_
        refine store_box (d := zd (jv z + 1)) 0 rfl hhb rfl (by kernel_rfl) (Reads.fact (v := r3) qM) ?_
        exact again hb trivial trivial qF (Seals.trans (Seals.box (d := zd (jv z + 1)) 0 rfl hhb rfl) (Seals.sub qS))
      · refine ord_go [0, 1, 3, 2, 4] (by kernel_rfl) (by kernel_rfl) ?_
        refine load_box (d := J z) 0 rfl htb rfl (load_J _) fun r1 => ?_
        refine call_fn (num5_meets 1 (by decide) (by decide)) (Seals.refl _ _) qS ?_
        rintro r2 _ _ ⟨rfl, rfl⟩
        refine alloc_rule (d := I false []) fun hb hhb => ?_
        refine call_fn (hadd r1 r2) (Seals.refl _ _) qS ?_
        rintro r3 _ _ ⟨rfl, rfl⟩
        refine store_box (d := zd (jv z + 1)) 0 rfl hhb rfl (by kernel_rfl) (Reads.fact (v := r3) qM) ?_
        exact again hb trivial trivial qF (Seals.trans (Seals.box (d := zd (jv z + 1)) 0 rfl hhb rfl) (Seals.sub qS))
    · refine ord_go [0, 3, 1, 2, 4] (by kernel_rfl) (by kernel_rfl) ?_
      refine load_box (d := J z) 0 rfl htb rfl (load_J _) fun r1 => ?_
      refine alloc_rule (d := I false []) fun hb hhb => ?_
      refine call_fn (num5_meets 1 (by decide) (by decide)) (Seals.refl _ _) qS ?_
      rintro r2 _ _ ⟨rfl, rfl⟩
      refine call_fn (hadd r1 r2) (Seals.refl _ _) qS ?_
      rintro r3 _ _ ⟨rfl, rfl⟩
      refine store_box (d := zd (jv z + 1)) 0 rfl hhb rfl (by kernel_rfl) (Reads.fact (v := r3) qM) ?_
      exact again hb trivial trivial qF (Seals.trans (Seals.box (d := zd (jv z + 1)) 0 rfl hhb rfl) (Seals.sub qS))
  rintro hb -
  simp only
  have hct := fun a b => count_meets v a b p z (cn (jv z + 1)) 1 6 2 hf hl hz (by omega) (Lim_lims _) zz1.len ok6.2.1
  simp only [jv_cn] at hct
  refine load_box (d := J z) 0 rfl htb rfl (load_J _) fun y7 => ?_
  refine load_fact (d := zd (jv z + 1)) qM (load_I _ _) fun y8 => ?_
  refine call_fn (hct y7 y8) (Seals.refl _ _) qS ?_
  rintro _ _ _ ⟨rfl, rfl, c, e2, rfl, hC⟩
  have hcb : 0 ≤ c ∧ c < 100 := by
    obtain ⟨_, s', g2, _, _, g5, g6, _⟩ := hC.ok hd (by omega)
    obtain ⟨gg, hg1, hg2⟩ := g2.ok hd
    have := Dv.deg (a := s') (b := pprim (vv p)) ⟨gg, fun x => by rw [hg2]; exact Int.mul_comm _ _⟩ (by rw [pprim_dg]; exact hd)
    rw [pprim_dg] at this
    have h9 := dg_le_len (vv p)
    rw [vv_len] at h9
    omega
  obtain ⟨rfl, rfl, hin, hbd, hup⟩ := floors_law hd h1 h2 hO hC
  have hml : (O.map cn).length = O.length := List.length_map _
  have hOz : ∀ i, i < O.length → sz (O.getD i 0) 1 := fun i hi => sz_btw (sz_jv hx hx1) (sz_jv hy hy1) (hbd i hi).1 (hbd i hi).2
  have cmpO : ∀ i, i < O.length → ∀ (r : Bool × List Nat), Lim r.2 → r.2.length ≤ 1 → ∀ a b, Meets Try.prog 16 [a, b] [(a, J ((O.map cn).getD i z0)), (b, J r)] (fun r' os fs => os = [] ∧ fs = [] ∧ r' = .int .i64 (O.getD i 0 - jv r).sign) := fun i hi r hr hr1 a b => by
    rw [map_cn_get hi]
    have := rCmpJ5 a b (cn (O.getD i 0)) r 1 (Lim_lims _) (hOz i hi).len hr hr1 (by decide)
    rw [jv_cn] at this
    exact this
  have hlo := fun i hi => cmpO i hi x hx hx1
  have hhi := fun i hi => cmpO i hi y hy hy1
  have heq := fun i hi => cmpO i hi z hz hz1
  have hne : ∀ i, i + 1 < O.length → ∀ a b, Meets Try.prog 16 [a, b] [(a, J ((O.map cn).getD i z0)), (b, J ((O.map cn).getD (i + 1) z0))] (fun r' os fs => os = [] ∧ fs = [] ∧ r' = .int .i64 (O.getD i 0 - O.getD (i + 1) 0).sign) := fun i hi a b => by
    have := cmpO i (by omega) ((O.map cn).getD (i + 1) z0) (by rw [map_cn_get hi]; exact Lim_lims _) (by rw [map_cn_get hi]; exact (hOz _ hi).len) a b
    rw [show jv ((O.map cn).getD (i + 1) z0) = O.getD (i + 1) 0 by rw [map_cn_get hi, jv_cn]] at this
    exact this
  have hs1 := fun y => rtSign_meets v y p z 1 1 hf hz hz1 (by omega) (by omega)
  have hs2 := fun y => rtSign_meets v y p (cn (jv z + 1)) 1 2 hf (Lim_lims _) zz1.len (by omega) (by omega)
  simp only [jv_cn] at hs2
  refine load_box (d := J z) 0 rfl htb rfl (load_J _) fun f1 => ?_
  refine call_fn (hs1 f1) (Seals.refl _ _) qS ?_
  rintro _ _ _ ⟨rfl, rfl, rfl⟩
  refine cmp_split _ rfl (fun e1 => ?_) (fun e1 => ?_)
  · refine ar rfl qI ?_
    refine load_fact (d := zd (jv z + 1)) qM (load_I _ _) fun f2 => ?_
    refine call_fn (hs2 f2) (Seals.refl _ _) qS ?_
    rintro _ _ _ ⟨rfl, rfl, rfl⟩
    refine cmp_split _ rfl (fun e2 => ?_) (fun e2 => ?_)
    · refine ar rfl qI ?_
      have hM : jv z ∈ O ↔ 0 < (c + 1 - 1 : Int) := by
        have h := hin
        rw [if_pos (sgn0.1 e1), if_pos (sgn0.1 e2)] at h
        exact h.trans ⟨fun g => by omega, fun g => by omega⟩
      refine loop_rule (X := Nat) (fun i => ([(5, lb), (6, ub), (7, tb), (9, .bool true), (10, q), (11, .int .i64 0), (13, .int .i64 (c + 1 - 1)), (14, .int .i64 0), (15, .bool (inB (jv z) O i)), (16, .int .i64 (i : Nat))], [own1 tb 2 1 (fun _ => J z), own1 ub 2 1 (fun _ => J y), own1 lb 2 1 (fun _ => J x)], [(q, vd O)]))
        (fun i => i ≤ O.length) (fun i => O.length - i) rfl ?_ ?_
      · exact again 0 (Nat.zero_le _) trivial qF (Seals.sub qS)
      rintro i hi
      refine len_fact (v := q) qM fun _ => ?_
      refine cmp_split _ rfl (fun hlt => ?_) (fun hlt => ?_)
      · have hiO : i < O.length := by omega
        have hBs := inB_succ (t := jv z) hiO
        cases hB : inB (jv z) O i with
        | true =>
          rw [hB, Bool.true_or] at hBs
          refine draw_rule [0, 1, 2, 3, 4, 5, 6, 7, 8, 9, 10] [0, 1, 2, 3, 4, 5, 6, 7, 8, 9, 10] (by kernel_rfl) (by kernel_rfl) ?_
          refine draw_rule [0, 1, 2, 3, 4, 5, 6, 7, 8, 9, 10, 11, 12, 13, 14, 15, 16, 17, 18, 19, 20, 21, 22, 23, 24, 25, 26, 27, 28, 29, 30, 31, 32] [0, 1, 2, 3, 4, 5, 6, 7, 8, 9, 10, 11, 12, 13, 14, 15, 16, 17, 18, 19, 20, 21, 22, 23, 24, 25, 26, 27, 28, 29, 30, 31, 32] (by kernel_rfl) (by kernel_rfl) ?_
          refine index_fact (v := q) qM (i) (by omega) (by rw [hml]; omega) fun a9 => ?_
          refine load_fact (d := J ((O.map cn).getD (i) z0)) qM (load_J _) fun d1 => ?_
          refine load_box (d := J x) 2 rfl hlb rfl (load_J _) fun d2 => ?_
          refine call_fn (hlo i hiO d1 d2) (Seals.refl _ _) qS ?_
          rintro _ _ _ ⟨rfl, rfl, rfl⟩
          refine cmp_false rfl (fun h => by have := sgn_lt.1 h; have := (hbd i hiO).1; omega) ?_
          refine index_fact (v := q) qM (i) (by omega) (by rw [hml]; omega) fun a9 => ?_
          refine load_fact (d := J ((O.map cn).getD (i) z0)) qM (load_J _) fun d3 => ?_
          refine load_box (d := J y) 1 rfl hub rfl (load_J _) fun d4 => ?_
          refine call_fn (hhi i hiO d3 d4) (Seals.refl _ _) qS ?_
          rintro _ _ _ ⟨rfl, rfl, rfl⟩
          refine cmp_false rfl (fun h => by
            have h3 := (hbd i hiO).2
            rcases Int.lt_trichotomy (O.getD i 0 - jv y) 0 with g | g | g
            · rw [sgn_neg g] at h; omega
            · rw [g] at h; simp at h
            · omega) ?_
          refine cmp_split _ rfl (fun h0 => ?_) (fun h0 => ?_)
          · obtain ⟨i', rfl⟩ : ∃ i', i = i' + 1 := ⟨i - 1, by omega⟩
            have hu := hup i' hiO
            refine ar rfl qI ?_
            refine index_fact (v := q) qM (i') (by omega) (by rw [hml]; omega) fun a9 => ?_
            refine load_fact (d := J ((O.map cn).getD (i') z0)) qM (load_J _) fun d5 => ?_
            refine index_fact (v := q) qM (i' + 1) (by omega) (by rw [hml]; omega) fun a9 => ?_
            refine load_fact (d := J ((O.map cn).getD (i' + 1) z0)) qM (load_J _) fun d6 => ?_
            refine call_fn (hne i' hiO d5 d6) (Seals.refl _ _) qS ?_
            rintro _ _ _ ⟨rfl, rfl, rfl⟩
            refine cmp_false rfl (fun h => by rw [sgn_neg (show O.getD i' 0 - O.getD (i' + 1) 0 < 0 by omega)] at h; omega) ?_
            refine ar rfl qI ?_
            refine again (i' + 1 + 1) (by omega) (by simp only; omega) (by simp only; rw [hBs]; exact qF) ?_
            exact Seals.sub (fs' := [(q, vd O)]) qS
          · refine ar rfl qI ?_
            refine again (i + 1) (by omega) (by simp only; omega) (by simp only; rw [hBs]; exact qF) ?_
            exact Seals.sub (fs' := [(q, vd O)]) qS
        | false =>
          rw [hB, Bool.false_or] at hBs
          refine draw_rule [0, 1, 2, 3, 4, 5, 6, 7, 8, 9, 10] [0, 1, 2, 3, 4, 5, 6, 7, 8, 9, 10] (by kernel_rfl) (by kernel_rfl) ?_
          refine index_fact (v := q) qM (i) (by omega) (by rw [hml]; omega) fun a9 => ?_
          refine load_fact (d := J ((O.map cn).getD (i) z0)) qM (load_J _) fun g1 => ?_
          refine load_box (d := J z) 0 rfl htb rfl (load_J _) fun g2 => ?_
          refine call_fn (heq i hiO g1 g2) (Seals.refl _ _) qS ?_
          rintro _ _ _ ⟨rfl, rfl, rfl⟩
          refine cmp_split _ rfl (fun hz0 => ?_) (fun hz0 => ?_)
          · rw [decide_eq_true (show O.getD i 0 = jv z by have := sgn0.1 hz0; omega)] at hBs
            refine draw_rule [0, 1, 2, 3, 4, 5, 6, 7, 8, 9, 10, 11, 12, 13, 14, 15, 16, 17, 18, 19, 20, 21, 22, 23, 24, 25, 26, 27, 28, 29, 30, 31, 32] [0, 1, 2, 3, 4, 5, 6, 7, 8, 9, 10, 11, 12, 13, 14, 15, 16, 17, 18, 19, 20, 21, 22, 23, 24, 25, 26, 27, 28, 29, 30, 31, 32] (by kernel_rfl) (by kernel_rfl) ?_
            refine index_fact (v := q) qM (i) (by omega) (by rw [hml]; omega) fun a9 => ?_
            refine load_fact (d := J ((O.map cn).getD (i) z0)) qM (load_J _) fun d1 => ?_
            refine load_box (d := J x) 2 rfl hlb rfl (load_J _) fun d2 => ?_
            refine call_fn (hlo i hiO d1 d2) (Seals.refl _ _) qS ?_
            rintro _ _ _ ⟨rfl, rfl, rfl⟩
            refine cmp_false rfl (fun h => by have := sgn_lt.1 h; have := (hbd i hiO).1; omega) ?_
            refine index_fact (v := q) qM (i) (by omega) (by rw [hml]; omega) fun a9 => ?_
            refine load_fact (d := J ((O.map cn).getD (i) z0)) qM (load_J _) fun d3 => ?_
            refine load_box (d := J y) 1 rfl hub rfl (load_J _) fun d4 => ?_
            refine call_fn (hhi i hiO d3 d4) (Seals.refl _ _) qS ?_
            rintro _ _ _ ⟨rfl, rfl, rfl⟩
            refine cmp_false rfl (fun h => by
              have h3 := (hbd i hiO).2
              rcases Int.lt_trichotomy (O.getD i 0 - jv y) 0 with g | g | g
              · rw [sgn_neg g] at h; omega
              · rw [g] at h; simp at h
              · omega) ?_
            refine cmp_split _ rfl (fun h0 => ?_) (fun h0 => ?_)
            · obtain ⟨i', rfl⟩ : ∃ i', i = i' + 1 := ⟨i - 1, by omega⟩
              have hu := hup i' hiO
              refine ar rfl qI ?_
              refine index_fact (v := q) qM (i') (by omega) (by rw [hml]; omega) fun a9 => ?_
              refine load_fact (d := J ((O.map cn).getD (i') z0)) qM (load_J _) fun d5 => ?_
              refine index_fact (v := q) qM (i' + 1) (by omega) (by rw [hml]; omega) fun a9 => ?_
              refine load_fact (d := J ((O.map cn).getD (i' + 1) z0)) qM (load_J _) fun d6 => ?_
              refine call_fn (hne i' hiO d5 d6) (Seals.refl _ _) qS ?_
              rintro _ _ _ ⟨rfl, rfl, rfl⟩
              refine cmp_false rfl (fun h => by rw [sgn_neg (show O.getD i' 0 - O.getD (i' + 1) 0 < 0 by omega)] at h; omega) ?_
              refine ar rfl qI ?_
              refine again (i' + 1 + 1) (by omega) (by simp only; omega) (by simp only; rw [hBs]; exact qF) ?_
              exact Seals.sub (fs' := [(q, vd O)]) qS
            · refine ar rfl qI ?_
              refine again (i + 1) (by omega) (by simp only; omega) (by simp only; rw [hBs]; exact qF) ?_
              exact Seals.sub (fs' := [(q, vd O)]) qS
          · rw [decide_eq_false (show ¬ O.getD i 0 = jv z from fun e => hz0 (sgn0.2 (by omega)))] at hBs
            refine draw_rule [0, 1, 2, 3, 4, 5, 6, 7, 8, 9, 10, 11, 12, 13, 14, 15, 16, 17, 18, 19, 20, 21, 22, 23, 24, 25, 26, 27, 28, 29, 30, 31, 32] [0, 1, 2, 3, 4, 5, 6, 7, 8, 9, 10, 11, 12, 13, 14, 15, 16, 17, 18, 19, 20, 21, 22, 23, 24, 25, 26, 27, 28, 29, 30, 31, 32] (by kernel_rfl) (by kernel_rfl) ?_
            refine index_fact (v := q) qM (i) (by omega) (by rw [hml]; omega) fun a9 => ?_
            refine load_fact (d := J ((O.map cn).getD (i) z0)) qM (load_J _) fun d1 => ?_
            refine load_box (d := J x) 2 rfl hlb rfl (load_J _) fun d2 => ?_
            refine call_fn (hlo i hiO d1 d2) (Seals.refl _ _) qS ?_
            rintro _ _ _ ⟨rfl, rfl, rfl⟩
            refine cmp_false rfl (fun h => by have := sgn_lt.1 h; have := (hbd i hiO).1; omega) ?_
            refine index_fact (v := q) qM (i) (by omega) (by rw [hml]; omega) fun a9 => ?_
            refine load_fact (d := J ((O.map cn).getD (i) z0)) qM (load_J _) fun d3 => ?_
            refine load_box (d := J y) 1 rfl hub rfl (load_J _) fun d4 => ?_
            refine call_fn (hhi i hiO d3 d4) (Seals.refl _ _) qS ?_
            rintro _ _ _ ⟨rfl, rfl, rfl⟩
            refine cmp_false rfl (fun h => by
              have h3 := (hbd i hiO).2
              rcases Int.lt_trichotomy (O.getD i 0 - jv y) 0 with g | g | g
              · rw [sgn_neg g] at h; omega
              · rw [g] at h; simp at h
              · omega) ?_
            refine cmp_split _ rfl (fun h0 => ?_) (fun h0 => ?_)
            · obtain ⟨i', rfl⟩ : ∃ i', i = i' + 1 := ⟨i - 1, by omega⟩
              have hu := hup i' hiO
              refine ar rfl qI ?_
              refine index_fact (v := q) qM (i') (by omega) (by rw [hml]; omega) fun a9 => ?_
              refine load_fact (d := J ((O.map cn).getD (i') z0)) qM (load_J _) fun d5 => ?_
              refine index_fact (v := q) qM (i' + 1) (by omega) (by rw [hml]; omega) fun a9 => ?_
              refine load_fact (d := J ((O.map cn).getD (i' + 1) z0)) qM (load_J _) fun d6 => ?_
              refine call_fn (hne i' hiO d5 d6) (Seals.refl _ _) qS ?_
              rintro _ _ _ ⟨rfl, rfl, rfl⟩
              refine cmp_false rfl (fun h => by rw [sgn_neg (show O.getD i' 0 - O.getD (i' + 1) 0 < 0 by omega)] at h; omega) ?_
              refine ar rfl qI ?_
              refine again (i' + 1 + 1) (by omega) (by simp only; omega) (by simp only; rw [hBs]; exact qF) ?_
              exact Seals.sub (fs' := [(q, vd O)]) qS
            · refine ar rfl qI ?_
              refine again (i + 1) (by omega) (by simp only; omega) (by simp only; rw [hBs]; exact qF) ?_
              exact Seals.sub (fs' := [(q, vd O)]) qS
      · have hiO : O.length = i := by omega
        subst hiO
        rw [inB_all]
        refine cmp_true rfl rfl ?_
        refine cmp_true rfl rfl ?_
        refine cmp_split _ rfl (fun hg => ?_) (fun hg => ?_)
        · rw [decide_eq_true (hM.2 hg)]
          refine beq_split (fun _ => ?_) (fun h => absurd rfl h)
          exact fin ⟨rfl, rfl, rfl⟩ (Seals.trans (Seals.drop 0 _ _) (Seals.trans (Seals.drop 0 _ _) (Seals.trans (Seals.drop 0 _ _) (Seals.nil _ _))))
        · rw [decide_eq_false (fun h => hg (hM.1 h))]
          refine beq_split (fun _ => ?_) (fun h => absurd rfl h)
          exact fin ⟨rfl, rfl, rfl⟩ (Seals.trans (Seals.drop 0 _ _) (Seals.trans (Seals.drop 0 _ _) (Seals.trans (Seals.drop 0 _ _) (Seals.nil _ _))))
    ·
      have hM : jv z ∈ O ↔ 0 < (c + 1 : Int) := by
        have h := hin
        rw [if_pos (sgn0.1 e1), if_neg (fun h => e2 (sgn0.2 h))] at h
        exact h.trans ⟨fun g => by omega, fun g => by omega⟩
      refine loop_rule (X := Nat) (fun i => ([(5, lb), (6, ub), (7, tb), (9, .bool true), (10, q), (11, .int .i64 0), (13, .int .i64 (c + 1)), (14, .int .i64 0), (15, .bool (inB (jv z) O i)), (16, .int .i64 (i : Nat))], [own1 tb 2 1 (fun _ => J z), own1 ub 2 1 (fun _ => J y), own1 lb 2 1 (fun _ => J x)], [(q, vd O)]))
        (fun i => i ≤ O.length) (fun i => O.length - i) rfl ?_ ?_
      · exact again 0 (Nat.zero_le _) trivial qF (Seals.sub qS)
      rintro i hi
      refine len_fact (v := q) qM fun _ => ?_
      refine cmp_split _ rfl (fun hlt => ?_) (fun hlt => ?_)
      · have hiO : i < O.length := by omega
        have hBs := inB_succ (t := jv z) hiO
        cases hB : inB (jv z) O i with
        | true =>
          rw [hB, Bool.true_or] at hBs
          refine draw_rule [0, 1, 2, 3, 4, 5, 6, 7, 8, 9, 10] [0, 1, 2, 3, 4, 5, 6, 7, 8, 9, 10] (by kernel_rfl) (by kernel_rfl) ?_
          refine draw_rule [0, 1, 2, 3, 4, 5, 6, 7, 8, 9, 10, 11, 12, 13, 14, 15, 16, 17, 18, 19, 20, 21, 22, 23, 24, 25, 26, 27, 28, 29, 30, 31, 32] [0, 1, 2, 3, 4, 5, 6, 7, 8, 9, 10, 11, 12, 13, 14, 15, 16, 17, 18, 19, 20, 21, 22, 23, 24, 25, 26, 27, 28, 29, 30, 31, 32] (by kernel_rfl) (by kernel_rfl) ?_
          refine index_fact (v := q) qM (i) (by omega) (by rw [hml]; omega) fun a9 => ?_
          refine load_fact (d := J ((O.map cn).getD (i) z0)) qM (load_J _) fun d1 => ?_
          refine load_box (d := J x) 2 rfl hlb rfl (load_J _) fun d2 => ?_
          refine call_fn (hlo i hiO d1 d2) (Seals.refl _ _) qS ?_
          rintro _ _ _ ⟨rfl, rfl, rfl⟩
          refine cmp_false rfl (fun h => by have := sgn_lt.1 h; have := (hbd i hiO).1; omega) ?_
          refine index_fact (v := q) qM (i) (by omega) (by rw [hml]; omega) fun a9 => ?_
          refine load_fact (d := J ((O.map cn).getD (i) z0)) qM (load_J _) fun d3 => ?_
          refine load_box (d := J y) 1 rfl hub rfl (load_J _) fun d4 => ?_
          refine call_fn (hhi i hiO d3 d4) (Seals.refl _ _) qS ?_
          rintro _ _ _ ⟨rfl, rfl, rfl⟩
          refine cmp_false rfl (fun h => by
            have h3 := (hbd i hiO).2
            rcases Int.lt_trichotomy (O.getD i 0 - jv y) 0 with g | g | g
            · rw [sgn_neg g] at h; omega
            · rw [g] at h; simp at h
            · omega) ?_
          refine cmp_split _ rfl (fun h0 => ?_) (fun h0 => ?_)
          · obtain ⟨i', rfl⟩ : ∃ i', i = i' + 1 := ⟨i - 1, by omega⟩
            have hu := hup i' hiO
            refine ar rfl qI ?_
            refine index_fact (v := q) qM (i') (by omega) (by rw [hml]; omega) fun a9 => ?_
            refine load_fact (d := J ((O.map cn).getD (i') z0)) qM (load_J _) fun d5 => ?_
            refine index_fact (v := q) qM (i' + 1) (by omega) (by rw [hml]; omega) fun a9 => ?_
            refine load_fact (d := J ((O.map cn).getD (i' + 1) z0)) qM (load_J _) fun d6 => ?_
            refine call_fn (hne i' hiO d5 d6) (Seals.refl _ _) qS ?_
            rintro _ _ _ ⟨rfl, rfl, rfl⟩
            refine cmp_false rfl (fun h => by rw [sgn_neg (show O.getD i' 0 - O.getD (i' + 1) 0 < 0 by omega)] at h; omega) ?_
            refine ar rfl qI ?_
            refine again (i' + 1 + 1) (by omega) (by simp only; omega) (by simp only; rw [hBs]; exact qF) ?_
            exact Seals.sub (fs' := [(q, vd O)]) qS
          · refine ar rfl qI ?_
            refine again (i + 1) (by omega) (by simp only; omega) (by simp only; rw [hBs]; exact qF) ?_
            exact Seals.sub (fs' := [(q, vd O)]) qS
        | false =>
          rw [hB, Bool.false_or] at hBs
          refine draw_rule [0, 1, 2, 3, 4, 5, 6, 7, 8, 9, 10] [0, 1, 2, 3, 4, 5, 6, 7, 8, 9, 10] (by kernel_rfl) (by kernel_rfl) ?_
          refine index_fact (v := q) qM (i) (by omega) (by rw [hml]; omega) fun a9 => ?_
          refine load_fact (d := J ((O.map cn).getD (i) z0)) qM (load_J _) fun g1 => ?_
          refine load_box (d := J z) 0 rfl htb rfl (load_J _) fun g2 => ?_
          refine call_fn (heq i hiO g1 g2) (Seals.refl _ _) qS ?_
          rintro _ _ _ ⟨rfl, rfl, rfl⟩
          refine cmp_split _ rfl (fun hz0 => ?_) (fun hz0 => ?_)
          · rw [decide_eq_true (show O.getD i 0 = jv z by have := sgn0.1 hz0; omega)] at hBs
            refine draw_rule [0, 1, 2, 3, 4, 5, 6, 7, 8, 9, 10, 11, 12, 13, 14, 15, 16, 17, 18, 19, 20, 21, 22, 23, 24, 25, 26, 27, 28, 29, 30, 31, 32] [0, 1, 2, 3, 4, 5, 6, 7, 8, 9, 10, 11, 12, 13, 14, 15, 16, 17, 18, 19, 20, 21, 22, 23, 24, 25, 26, 27, 28, 29, 30, 31, 32] (by kernel_rfl) (by kernel_rfl) ?_
            refine index_fact (v := q) qM (i) (by omega) (by rw [hml]; omega) fun a9 => ?_
            refine load_fact (d := J ((O.map cn).getD (i) z0)) qM (load_J _) fun d1 => ?_
            refine load_box (d := J x) 2 rfl hlb rfl (load_J _) fun d2 => ?_
            refine call_fn (hlo i hiO d1 d2) (Seals.refl _ _) qS ?_
            rintro _ _ _ ⟨rfl, rfl, rfl⟩
            refine cmp_false rfl (fun h => by have := sgn_lt.1 h; have := (hbd i hiO).1; omega) ?_
            refine index_fact (v := q) qM (i) (by omega) (by rw [hml]; omega) fun a9 => ?_
            refine load_fact (d := J ((O.map cn).getD (i) z0)) qM (load_J _) fun d3 => ?_
            refine load_box (d := J y) 1 rfl hub rfl (load_J _) fun d4 => ?_
            refine call_fn (hhi i hiO d3 d4) (Seals.refl _ _) qS ?_
            rintro _ _ _ ⟨rfl, rfl, rfl⟩
            refine cmp_false rfl (fun h => by
              have h3 := (hbd i hiO).2
              rcases Int.lt_trichotomy (O.getD i 0 - jv y) 0 with g | g | g
              · rw [sgn_neg g] at h; omega
              · rw [g] at h; simp at h
              · omega) ?_
            refine cmp_split _ rfl (fun h0 => ?_) (fun h0 => ?_)
            · obtain ⟨i', rfl⟩ : ∃ i', i = i' + 1 := ⟨i - 1, by omega⟩
              have hu := hup i' hiO
              refine ar rfl qI ?_
              refine index_fact (v := q) qM (i') (by omega) (by rw [hml]; omega) fun a9 => ?_
              refine load_fact (d := J ((O.map cn).getD (i') z0)) qM (load_J _) fun d5 => ?_
              refine index_fact (v := q) qM (i' + 1) (by omega) (by rw [hml]; omega) fun a9 => ?_
              refine load_fact (d := J ((O.map cn).getD (i' + 1) z0)) qM (load_J _) fun d6 => ?_
              refine call_fn (hne i' hiO d5 d6) (Seals.refl _ _) qS ?_
              rintro _ _ _ ⟨rfl, rfl, rfl⟩
              refine cmp_false rfl (fun h => by rw [sgn_neg (show O.getD i' 0 - O.getD (i' + 1) 0 < 0 by omega)] at h; omega) ?_
              refine ar rfl qI ?_
              refine again (i' + 1 + 1) (by omega) (by simp only; omega) (by simp only; rw [hBs]; exact qF) ?_
              exact Seals.sub (fs' := [(q, vd O)]) qS
            · refine ar rfl qI ?_
              refine again (i + 1) (by omega) (by simp only; omega) (by simp only; rw [hBs]; exact qF) ?_
              exact Seals.sub (fs' := [(q, vd O)]) qS
          · rw [decide_eq_false (show ¬ O.getD i 0 = jv z from fun e => hz0 (sgn0.2 (by omega)))] at hBs
            refine draw_rule [0, 1, 2, 3, 4, 5, 6, 7, 8, 9, 10, 11, 12, 13, 14, 15, 16, 17, 18, 19, 20, 21, 22, 23, 24, 25, 26, 27, 28, 29, 30, 31, 32] [0, 1, 2, 3, 4, 5, 6, 7, 8, 9, 10, 11, 12, 13, 14, 15, 16, 17, 18, 19, 20, 21, 22, 23, 24, 25, 26, 27, 28, 29, 30, 31, 32] (by kernel_rfl) (by kernel_rfl) ?_
            refine index_fact (v := q) qM (i) (by omega) (by rw [hml]; omega) fun a9 => ?_
            refine load_fact (d := J ((O.map cn).getD (i) z0)) qM (load_J _) fun d1 => ?_
            refine load_box (d := J x) 2 rfl hlb rfl (load_J _) fun d2 => ?_
            refine call_fn (hlo i hiO d1 d2) (Seals.refl _ _) qS ?_
            rintro _ _ _ ⟨rfl, rfl, rfl⟩
            refine cmp_false rfl (fun h => by have := sgn_lt.1 h; have := (hbd i hiO).1; omega) ?_
            refine index_fact (v := q) qM (i) (by omega) (by rw [hml]; omega) fun a9 => ?_
            refine load_fact (d := J ((O.map cn).getD (i) z0)) qM (load_J _) fun d3 => ?_
            refine load_box (d := J y) 1 rfl hub rfl (load_J _) fun d4 => ?_
            refine call_fn (hhi i hiO d3 d4) (Seals.refl _ _) qS ?_
            rintro _ _ _ ⟨rfl, rfl, rfl⟩
            refine cmp_false rfl (fun h => by
              have h3 := (hbd i hiO).2
              rcases Int.lt_trichotomy (O.getD i 0 - jv y) 0 with g | g | g
              · rw [sgn_neg g] at h; omega
              · rw [g] at h; simp at h
              · omega) ?_
            refine cmp_split _ rfl (fun h0 => ?_) (fun h0 => ?_)
            · obtain ⟨i', rfl⟩ : ∃ i', i = i' + 1 := ⟨i - 1, by omega⟩
              have hu := hup i' hiO
              refine ar rfl qI ?_
              refine index_fact (v := q) qM (i') (by omega) (by rw [hml]; omega) fun a9 => ?_
              refine load_fact (d := J ((O.map cn).getD (i') z0)) qM (load_J _) fun d5 => ?_
              refine index_fact (v := q) qM (i' + 1) (by omega) (by rw [hml]; omega) fun a9 => ?_
              refine load_fact (d := J ((O.map cn).getD (i' + 1) z0)) qM (load_J _) fun d6 => ?_
              refine call_fn (hne i' hiO d5 d6) (Seals.refl _ _) qS ?_
              rintro _ _ _ ⟨rfl, rfl, rfl⟩
              refine cmp_false rfl (fun h => by rw [sgn_neg (show O.getD i' 0 - O.getD (i' + 1) 0 < 0 by omega)] at h; omega) ?_
              refine ar rfl qI ?_
              refine again (i' + 1 + 1) (by omega) (by simp only; omega) (by simp only; rw [hBs]; exact qF) ?_
              exact Seals.sub (fs' := [(q, vd O)]) qS
            · refine ar rfl qI ?_
              refine again (i + 1) (by omega) (by simp only; omega) (by simp only; rw [hBs]; exact qF) ?_
              exact Seals.sub (fs' := [(q, vd O)]) qS
      · have hiO : O.length = i := by omega
        subst hiO
        rw [inB_all]
        refine cmp_true rfl rfl ?_
        refine cmp_true rfl rfl ?_
        refine cmp_split _ rfl (fun hg => ?_) (fun hg => ?_)
        · rw [decide_eq_true (hM.2 hg)]
          refine beq_split (fun _ => ?_) (fun h => absurd rfl h)
          exact fin ⟨rfl, rfl, rfl⟩ (Seals.trans (Seals.drop 0 _ _) (Seals.trans (Seals.drop 0 _ _) (Seals.trans (Seals.drop 0 _ _) (Seals.nil _ _))))
        · rw [decide_eq_false (fun h => hg (hM.1 h))]
          refine beq_split (fun _ => ?_) (fun h => absurd rfl h)
          exact fin ⟨rfl, rfl, rfl⟩ (Seals.trans (Seals.drop 0 _ _) (Seals.trans (Seals.drop 0 _ _) (Seals.trans (Seals.drop 0 _ _) (Seals.nil _ _))))
  · refine load_fact (d := zd (jv z + 1)) qM (load_I _ _) fun f2 => ?_
    refine call_fn (hs2 f2) (Seals.refl _ _) qS ?_
    rintro _ _ _ ⟨rfl, rfl, rfl⟩
    refine cmp_split _ rfl (fun e2 => ?_) (fun e2 => ?_)
    · refine ar rfl qI ?_
      have hM : jv z ∈ O ↔ 0 < (c - 1 : Int) := by
        have h := hin
        rw [if_neg (fun h => e1 (sgn0.2 h)), if_pos (sgn0.1 e2)] at h
        exact h.trans ⟨fun g => by omega, fun g => by omega⟩
      refine loop_rule (X := Nat) (fun i => ([(5, lb), (6, ub), (7, tb), (9, .bool true), (10, q), (11, .int .i64 0), (13, .int .i64 (c - 1)), (14, .int .i64 0), (15, .bool (inB (jv z) O i)), (16, .int .i64 (i : Nat))], [own1 tb 2 1 (fun _ => J z), own1 ub 2 1 (fun _ => J y), own1 lb 2 1 (fun _ => J x)], [(q, vd O)]))
        (fun i => i ≤ O.length) (fun i => O.length - i) rfl ?_ ?_
      · exact again 0 (Nat.zero_le _) trivial qF (Seals.sub qS)
      rintro i hi
      refine len_fact (v := q) qM fun _ => ?_
      refine cmp_split _ rfl (fun hlt => ?_) (fun hlt => ?_)
      · have hiO : i < O.length := by omega
        have hBs := inB_succ (t := jv z) hiO
        cases hB : inB (jv z) O i with
        | true =>
          rw [hB, Bool.true_or] at hBs
          refine draw_rule [0, 1, 2, 3, 4, 5, 6, 7, 8, 9, 10] [0, 1, 2, 3, 4, 5, 6, 7, 8, 9, 10] (by kernel_rfl) (by kernel_rfl) ?_
          refine draw_rule [0, 1, 2, 3, 4, 5, 6, 7, 8, 9, 10, 11, 12, 13, 14, 15, 16, 17, 18, 19, 20, 21, 22, 23, 24, 25, 26, 27, 28, 29, 30, 31, 32] [0, 1, 2, 3, 4, 5, 6, 7, 8, 9, 10, 11, 12, 13, 14, 15, 16, 17, 18, 19, 20, 21, 22, 23, 24, 25, 26, 27, 28, 29, 30, 31, 32] (by kernel_rfl) (by kernel_rfl) ?_
          refine index_fact (v := q) qM (i) (by omega) (by rw [hml]; omega) fun a9 => ?_
          refine load_fact (d := J ((O.map cn).getD (i) z0)) qM (load_J _) fun d1 => ?_
          refine load_box (d := J x) 2 rfl hlb rfl (load_J _) fun d2 => ?_
          refine call_fn (hlo i hiO d1 d2) (Seals.refl _ _) qS ?_
          rintro _ _ _ ⟨rfl, rfl, rfl⟩
          refine cmp_false rfl (fun h => by have := sgn_lt.1 h; have := (hbd i hiO).1; omega) ?_
          refine index_fact (v := q) qM (i) (by omega) (by rw [hml]; omega) fun a9 => ?_
          refine load_fact (d := J ((O.map cn).getD (i) z0)) qM (load_J _) fun d3 => ?_
          refine load_box (d := J y) 1 rfl hub rfl (load_J _) fun d4 => ?_
          refine call_fn (hhi i hiO d3 d4) (Seals.refl _ _) qS ?_
          rintro _ _ _ ⟨rfl, rfl, rfl⟩
          refine cmp_false rfl (fun h => by
            have h3 := (hbd i hiO).2
            rcases Int.lt_trichotomy (O.getD i 0 - jv y) 0 with g | g | g
            · rw [sgn_neg g] at h; omega
            · rw [g] at h; simp at h
            · omega) ?_
          refine cmp_split _ rfl (fun h0 => ?_) (fun h0 => ?_)
          · obtain ⟨i', rfl⟩ : ∃ i', i = i' + 1 := ⟨i - 1, by omega⟩
            have hu := hup i' hiO
            refine ar rfl qI ?_
            refine index_fact (v := q) qM (i') (by omega) (by rw [hml]; omega) fun a9 => ?_
            refine load_fact (d := J ((O.map cn).getD (i') z0)) qM (load_J _) fun d5 => ?_
            refine index_fact (v := q) qM (i' + 1) (by omega) (by rw [hml]; omega) fun a9 => ?_
            refine load_fact (d := J ((O.map cn).getD (i' + 1) z0)) qM (load_J _) fun d6 => ?_
            refine call_fn (hne i' hiO d5 d6) (Seals.refl _ _) qS ?_
            rintro _ _ _ ⟨rfl, rfl, rfl⟩
            refine cmp_false rfl (fun h => by rw [sgn_neg (show O.getD i' 0 - O.getD (i' + 1) 0 < 0 by omega)] at h; omega) ?_
            refine ar rfl qI ?_
            refine again (i' + 1 + 1) (by omega) (by simp only; omega) (by simp only; rw [hBs]; exact qF) ?_
            exact Seals.sub (fs' := [(q, vd O)]) qS
          · refine ar rfl qI ?_
            refine again (i + 1) (by omega) (by simp only; omega) (by simp only; rw [hBs]; exact qF) ?_
            exact Seals.sub (fs' := [(q, vd O)]) qS
        | false =>
          rw [hB, Bool.false_or] at hBs
          refine draw_rule [0, 1, 2, 3, 4, 5, 6, 7, 8, 9, 10] [0, 1, 2, 3, 4, 5, 6, 7, 8, 9, 10] (by kernel_rfl) (by kernel_rfl) ?_
          refine index_fact (v := q) qM (i) (by omega) (by rw [hml]; omega) fun a9 => ?_
          refine load_fact (d := J ((O.map cn).getD (i) z0)) qM (load_J _) fun g1 => ?_
          refine load_box (d := J z) 0 rfl htb rfl (load_J _) fun g2 => ?_
          refine call_fn (heq i hiO g1 g2) (Seals.refl _ _) qS ?_
          rintro _ _ _ ⟨rfl, rfl, rfl⟩
          refine cmp_split _ rfl (fun hz0 => ?_) (fun hz0 => ?_)
          · rw [decide_eq_true (show O.getD i 0 = jv z by have := sgn0.1 hz0; omega)] at hBs
            refine draw_rule [0, 1, 2, 3, 4, 5, 6, 7, 8, 9, 10, 11, 12, 13, 14, 15, 16, 17, 18, 19, 20, 21, 22, 23, 24, 25, 26, 27, 28, 29, 30, 31, 32] [0, 1, 2, 3, 4, 5, 6, 7, 8, 9, 10, 11, 12, 13, 14, 15, 16, 17, 18, 19, 20, 21, 22, 23, 24, 25, 26, 27, 28, 29, 30, 31, 32] (by kernel_rfl) (by kernel_rfl) ?_
            refine index_fact (v := q) qM (i) (by omega) (by rw [hml]; omega) fun a9 => ?_
            refine load_fact (d := J ((O.map cn).getD (i) z0)) qM (load_J _) fun d1 => ?_
            refine load_box (d := J x) 2 rfl hlb rfl (load_J _) fun d2 => ?_
            refine call_fn (hlo i hiO d1 d2) (Seals.refl _ _) qS ?_
            rintro _ _ _ ⟨rfl, rfl, rfl⟩
            refine cmp_false rfl (fun h => by have := sgn_lt.1 h; have := (hbd i hiO).1; omega) ?_
            refine index_fact (v := q) qM (i) (by omega) (by rw [hml]; omega) fun a9 => ?_
            refine load_fact (d := J ((O.map cn).getD (i) z0)) qM (load_J _) fun d3 => ?_
            refine load_box (d := J y) 1 rfl hub rfl (load_J _) fun d4 => ?_
            refine call_fn (hhi i hiO d3 d4) (Seals.refl _ _) qS ?_
            rintro _ _ _ ⟨rfl, rfl, rfl⟩
            refine cmp_false rfl (fun h => by
              have h3 := (hbd i hiO).2
              rcases Int.lt_trichotomy (O.getD i 0 - jv y) 0 with g | g | g
              · rw [sgn_neg g] at h; omega
              · rw [g] at h; simp at h
              · omega) ?_
            refine cmp_split _ rfl (fun h0 => ?_) (fun h0 => ?_)
            · obtain ⟨i', rfl⟩ : ∃ i', i = i' + 1 := ⟨i - 1, by omega⟩
              have hu := hup i' hiO
              refine ar rfl qI ?_
              refine index_fact (v := q) qM (i') (by omega) (by rw [hml]; omega) fun a9 => ?_
              refine load_fact (d := J ((O.map cn).getD (i') z0)) qM (load_J _) fun d5 => ?_
              refine index_fact (v := q) qM (i' + 1) (by omega) (by rw [hml]; omega) fun a9 => ?_
              refine load_fact (d := J ((O.map cn).getD (i' + 1) z0)) qM (load_J _) fun d6 => ?_
              refine call_fn (hne i' hiO d5 d6) (Seals.refl _ _) qS ?_
              rintro _ _ _ ⟨rfl, rfl, rfl⟩
              refine cmp_false rfl (fun h => by rw [sgn_neg (show O.getD i' 0 - O.getD (i' + 1) 0 < 0 by omega)] at h; omega) ?_
              refine ar rfl qI ?_
              refine again (i' + 1 + 1) (by omega) (by simp only; omega) (by simp only; rw [hBs]; exact qF) ?_
              exact Seals.sub (fs' := [(q, vd O)]) qS
            · refine ar rfl qI ?_
              refine again (i + 1) (by omega) (by simp only; omega) (by simp only; rw [hBs]; exact qF) ?_
              exact Seals.sub (fs' := [(q, vd O)]) qS
          · rw [decide_eq_false (show ¬ O.getD i 0 = jv z from fun e => hz0 (sgn0.2 (by omega)))] at hBs
            refine draw_rule [0, 1, 2, 3, 4, 5, 6, 7, 8, 9, 10, 11, 12, 13, 14, 15, 16, 17, 18, 19, 20, 21, 22, 23, 24, 25, 26, 27, 28, 29, 30, 31, 32] [0, 1, 2, 3, 4, 5, 6, 7, 8, 9, 10, 11, 12, 13, 14, 15, 16, 17, 18, 19, 20, 21, 22, 23, 24, 25, 26, 27, 28, 29, 30, 31, 32] (by kernel_rfl) (by kernel_rfl) ?_
            refine index_fact (v := q) qM (i) (by omega) (by rw [hml]; omega) fun a9 => ?_
            refine load_fact (d := J ((O.map cn).getD (i) z0)) qM (load_J _) fun d1 => ?_
            refine load_box (d := J x) 2 rfl hlb rfl (load_J _) fun d2 => ?_
            refine call_fn (hlo i hiO d1 d2) (Seals.refl _ _) qS ?_
            rintro _ _ _ ⟨rfl, rfl, rfl⟩
            refine cmp_false rfl (fun h => by have := sgn_lt.1 h; have := (hbd i hiO).1; omega) ?_
            refine index_fact (v := q) qM (i) (by omega) (by rw [hml]; omega) fun a9 => ?_
            refine load_fact (d := J ((O.map cn).getD (i) z0)) qM (load_J _) fun d3 => ?_
            refine load_box (d := J y) 1 rfl hub rfl (load_J _) fun d4 => ?_
            refine call_fn (hhi i hiO d3 d4) (Seals.refl _ _) qS ?_
            rintro _ _ _ ⟨rfl, rfl, rfl⟩
            refine cmp_false rfl (fun h => by
              have h3 := (hbd i hiO).2
              rcases Int.lt_trichotomy (O.getD i 0 - jv y) 0 with g | g | g
              · rw [sgn_neg g] at h; omega
              · rw [g] at h; simp at h
              · omega) ?_
            refine cmp_split _ rfl (fun h0 => ?_) (fun h0 => ?_)
            · obtain ⟨i', rfl⟩ : ∃ i', i = i' + 1 := ⟨i - 1, by omega⟩
              have hu := hup i' hiO
              refine ar rfl qI ?_
              refine index_fact (v := q) qM (i') (by omega) (by rw [hml]; omega) fun a9 => ?_
              refine load_fact (d := J ((O.map cn).getD (i') z0)) qM (load_J _) fun d5 => ?_
              refine index_fact (v := q) qM (i' + 1) (by omega) (by rw [hml]; omega) fun a9 => ?_
              refine load_fact (d := J ((O.map cn).getD (i' + 1) z0)) qM (load_J _) fun d6 => ?_
              refine call_fn (hne i' hiO d5 d6) (Seals.refl _ _) qS ?_
              rintro _ _ _ ⟨rfl, rfl, rfl⟩
              refine cmp_false rfl (fun h => by rw [sgn_neg (show O.getD i' 0 - O.getD (i' + 1) 0 < 0 by omega)] at h; omega) ?_
              refine ar rfl qI ?_
              refine again (i' + 1 + 1) (by omega) (by simp only; omega) (by simp only; rw [hBs]; exact qF) ?_
              exact Seals.sub (fs' := [(q, vd O)]) qS
            · refine ar rfl qI ?_
              refine again (i + 1) (by omega) (by simp only; omega) (by simp only; rw [hBs]; exact qF) ?_
              exact Seals.sub (fs' := [(q, vd O)]) qS
      · have hiO : O.length = i := by omega
        subst hiO
        rw [inB_all]
        refine cmp_true rfl rfl ?_
        refine cmp_true rfl rfl ?_
        refine cmp_split _ rfl (fun hg => ?_) (fun hg => ?_)
        · rw [decide_eq_true (hM.2 hg)]
          refine beq_split (fun _ => ?_) (fun h => absurd rfl h)
          exact fin ⟨rfl, rfl, rfl⟩ (Seals.trans (Seals.drop 0 _ _) (Seals.trans (Seals.drop 0 _ _) (Seals.trans (Seals.drop 0 _ _) (Seals.nil _ _))))
        · rw [decide_eq_false (fun h => hg (hM.1 h))]
          refine beq_split (fun _ => ?_) (fun h => absurd rfl h)
          exact fin ⟨rfl, rfl, rfl⟩ (Seals.trans (Seals.drop 0 _ _) (Seals.trans (Seals.drop 0 _ _) (Seals.trans (Seals.drop 0 _ _) (Seals.nil _ _))))
    ·
      have hM : jv z ∈ O ↔ 0 < (c : Int) := by
        have h := hin
        rw [if_neg (fun h => e1 (sgn0.2 h)), if_neg (fun h => e2 (sgn0.2 h))] at h
        exact h.trans ⟨fun g => by omega, fun g => by omega⟩
      refine loop_rule (X := Nat) (fun i => ([(5, lb), (6, ub), (7, tb), (9, .bool true), (10, q), (11, .int .i64 0), (13, .int .i64 (c)), (14, .int .i64 0), (15, .bool (inB (jv z) O i)), (16, .int .i64 (i : Nat))], [own1 tb 2 1 (fun _ => J z), own1 ub 2 1 (fun _ => J y), own1 lb 2 1 (fun _ => J x)], [(q, vd O)]))
        (fun i => i ≤ O.length) (fun i => O.length - i) rfl ?_ ?_
      · exact again 0 (Nat.zero_le _) trivial qF (Seals.sub qS)
      rintro i hi
      refine len_fact (v := q) qM fun _ => ?_
      refine cmp_split _ rfl (fun hlt => ?_) (fun hlt => ?_)
      · have hiO : i < O.length := by omega
        have hBs := inB_succ (t := jv z) hiO
        cases hB : inB (jv z) O i with
        | true =>
          rw [hB, Bool.true_or] at hBs
          refine draw_rule [0, 1, 2, 3, 4, 5, 6, 7, 8, 9, 10] [0, 1, 2, 3, 4, 5, 6, 7, 8, 9, 10] (by kernel_rfl) (by kernel_rfl) ?_
          refine draw_rule [0, 1, 2, 3, 4, 5, 6, 7, 8, 9, 10, 11, 12, 13, 14, 15, 16, 17, 18, 19, 20, 21, 22, 23, 24, 25, 26, 27, 28, 29, 30, 31, 32] [0, 1, 2, 3, 4, 5, 6, 7, 8, 9, 10, 11, 12, 13, 14, 15, 16, 17, 18, 19, 20, 21, 22, 23, 24, 25, 26, 27, 28, 29, 30, 31, 32] (by kernel_rfl) (by kernel_rfl) ?_
          refine index_fact (v := q) qM (i) (by omega) (by rw [hml]; omega) fun a9 => ?_
          refine load_fact (d := J ((O.map cn).getD (i) z0)) qM (load_J _) fun d1 => ?_
          refine load_box (d := J x) 2 rfl hlb rfl (load_J _) fun d2 => ?_
          refine call_fn (hlo i hiO d1 d2) (Seals.refl _ _) qS ?_
          rintro _ _ _ ⟨rfl, rfl, rfl⟩
          refine cmp_false rfl (fun h => by have := sgn_lt.1 h; have := (hbd i hiO).1; omega) ?_
          refine index_fact (v := q) qM (i) (by omega) (by rw [hml]; omega) fun a9 => ?_
          refine load_fact (d := J ((O.map cn).getD (i) z0)) qM (load_J _) fun d3 => ?_
          refine load_box (d := J y) 1 rfl hub rfl (load_J _) fun d4 => ?_
          refine call_fn (hhi i hiO d3 d4) (Seals.refl _ _) qS ?_
          rintro _ _ _ ⟨rfl, rfl, rfl⟩
          refine cmp_false rfl (fun h => by
            have h3 := (hbd i hiO).2
            rcases Int.lt_trichotomy (O.getD i 0 - jv y) 0 with g | g | g
            · rw [sgn_neg g] at h; omega
            · rw [g] at h; simp at h
            · omega) ?_
          refine cmp_split _ rfl (fun h0 => ?_) (fun h0 => ?_)
          · obtain ⟨i', rfl⟩ : ∃ i', i = i' + 1 := ⟨i - 1, by omega⟩
            have hu := hup i' hiO
            refine ar rfl qI ?_
            refine index_fact (v := q) qM (i') (by omega) (by rw [hml]; omega) fun a9 => ?_
            refine load_fact (d := J ((O.map cn).getD (i') z0)) qM (load_J _) fun d5 => ?_
            refine index_fact (v := q) qM (i' + 1) (by omega) (by rw [hml]; omega) fun a9 => ?_
            refine load_fact (d := J ((O.map cn).getD (i' + 1) z0)) qM (load_J _) fun d6 => ?_
            refine call_fn (hne i' hiO d5 d6) (Seals.refl _ _) qS ?_
            rintro _ _ _ ⟨rfl, rfl, rfl⟩
            refine cmp_false rfl (fun h => by rw [sgn_neg (show O.getD i' 0 - O.getD (i' + 1) 0 < 0 by omega)] at h; omega) ?_
            refine ar rfl qI ?_
            refine again (i' + 1 + 1) (by omega) (by simp only; omega) (by simp only; rw [hBs]; exact qF) ?_
            exact Seals.sub (fs' := [(q, vd O)]) qS
          · refine ar rfl qI ?_
            refine again (i + 1) (by omega) (by simp only; omega) (by simp only; rw [hBs]; exact qF) ?_
            exact Seals.sub (fs' := [(q, vd O)]) qS
        | false =>
          rw [hB, Bool.false_or] at hBs
          refine draw_rule [0, 1, 2, 3, 4, 5, 6, 7, 8, 9, 10] [0, 1, 2, 3, 4, 5, 6, 7, 8, 9, 10] (by kernel_rfl) (by kernel_rfl) ?_
          refine index_fact (v := q) qM (i) (by omega) (by rw [hml]; omega) fun a9 => ?_
          refine load_fact (d := J ((O.map cn).getD (i) z0)) qM (load_J _) fun g1 => ?_
          refine load_box (d := J z) 0 rfl htb rfl (load_J _) fun g2 => ?_
          refine call_fn (heq i hiO g1 g2) (Seals.refl _ _) qS ?_
          rintro _ _ _ ⟨rfl, rfl, rfl⟩
          refine cmp_split _ rfl (fun hz0 => ?_) (fun hz0 => ?_)
          · rw [decide_eq_true (show O.getD i 0 = jv z by have := sgn0.1 hz0; omega)] at hBs
            refine draw_rule [0, 1, 2, 3, 4, 5, 6, 7, 8, 9, 10, 11, 12, 13, 14, 15, 16, 17, 18, 19, 20, 21, 22, 23, 24, 25, 26, 27, 28, 29, 30, 31, 32] [0, 1, 2, 3, 4, 5, 6, 7, 8, 9, 10, 11, 12, 13, 14, 15, 16, 17, 18, 19, 20, 21, 22, 23, 24, 25, 26, 27, 28, 29, 30, 31, 32] (by kernel_rfl) (by kernel_rfl) ?_
            refine index_fact (v := q) qM (i) (by omega) (by rw [hml]; omega) fun a9 => ?_
            refine load_fact (d := J ((O.map cn).getD (i) z0)) qM (load_J _) fun d1 => ?_
            refine load_box (d := J x) 2 rfl hlb rfl (load_J _) fun d2 => ?_
            refine call_fn (hlo i hiO d1 d2) (Seals.refl _ _) qS ?_
            rintro _ _ _ ⟨rfl, rfl, rfl⟩
            refine cmp_false rfl (fun h => by have := sgn_lt.1 h; have := (hbd i hiO).1; omega) ?_
            refine index_fact (v := q) qM (i) (by omega) (by rw [hml]; omega) fun a9 => ?_
            refine load_fact (d := J ((O.map cn).getD (i) z0)) qM (load_J _) fun d3 => ?_
            refine load_box (d := J y) 1 rfl hub rfl (load_J _) fun d4 => ?_
            refine call_fn (hhi i hiO d3 d4) (Seals.refl _ _) qS ?_
            rintro _ _ _ ⟨rfl, rfl, rfl⟩
            refine cmp_false rfl (fun h => by
              have h3 := (hbd i hiO).2
              rcases Int.lt_trichotomy (O.getD i 0 - jv y) 0 with g | g | g
              · rw [sgn_neg g] at h; omega
              · rw [g] at h; simp at h
              · omega) ?_
            refine cmp_split _ rfl (fun h0 => ?_) (fun h0 => ?_)
            · obtain ⟨i', rfl⟩ : ∃ i', i = i' + 1 := ⟨i - 1, by omega⟩
              have hu := hup i' hiO
              refine ar rfl qI ?_
              refine index_fact (v := q) qM (i') (by omega) (by rw [hml]; omega) fun a9 => ?_
              refine load_fact (d := J ((O.map cn).getD (i') z0)) qM (load_J _) fun d5 => ?_
              refine index_fact (v := q) qM (i' + 1) (by omega) (by rw [hml]; omega) fun a9 => ?_
              refine load_fact (d := J ((O.map cn).getD (i' + 1) z0)) qM (load_J _) fun d6 => ?_
              refine call_fn (hne i' hiO d5 d6) (Seals.refl _ _) qS ?_
              rintro _ _ _ ⟨rfl, rfl, rfl⟩
              refine cmp_false rfl (fun h => by rw [sgn_neg (show O.getD i' 0 - O.getD (i' + 1) 0 < 0 by omega)] at h; omega) ?_
              refine ar rfl qI ?_
              refine again (i' + 1 + 1) (by omega) (by simp only; omega) (by simp only; rw [hBs]; exact qF) ?_
              exact Seals.sub (fs' := [(q, vd O)]) qS
            · refine ar rfl qI ?_
              refine again (i + 1) (by omega) (by simp only; omega) (by simp only; rw [hBs]; exact qF) ?_
              exact Seals.sub (fs' := [(q, vd O)]) qS
          · rw [decide_eq_false (show ¬ O.getD i 0 = jv z from fun e => hz0 (sgn0.2 (by omega)))] at hBs
            refine draw_rule [0, 1, 2, 3, 4, 5, 6, 7, 8, 9, 10, 11, 12, 13, 14, 15, 16, 17, 18, 19, 20, 21, 22, 23, 24, 25, 26, 27, 28, 29, 30, 31, 32] [0, 1, 2, 3, 4, 5, 6, 7, 8, 9, 10, 11, 12, 13, 14, 15, 16, 17, 18, 19, 20, 21, 22, 23, 24, 25, 26, 27, 28, 29, 30, 31, 32] (by kernel_rfl) (by kernel_rfl) ?_
            refine index_fact (v := q) qM (i) (by omega) (by rw [hml]; omega) fun a9 => ?_
            refine load_fact (d := J ((O.map cn).getD (i) z0)) qM (load_J _) fun d1 => ?_
            refine load_box (d := J x) 2 rfl hlb rfl (load_J _) fun d2 => ?_
            refine call_fn (hlo i hiO d1 d2) (Seals.refl _ _) qS ?_
            rintro _ _ _ ⟨rfl, rfl, rfl⟩
            refine cmp_false rfl (fun h => by have := sgn_lt.1 h; have := (hbd i hiO).1; omega) ?_
            refine index_fact (v := q) qM (i) (by omega) (by rw [hml]; omega) fun a9 => ?_
            refine load_fact (d := J ((O.map cn).getD (i) z0)) qM (load_J _) fun d3 => ?_
            refine load_box (d := J y) 1 rfl hub rfl (load_J _) fun d4 => ?_
            refine call_fn (hhi i hiO d3 d4) (Seals.refl _ _) qS ?_
            rintro _ _ _ ⟨rfl, rfl, rfl⟩
            refine cmp_false rfl (fun h => by
              have h3 := (hbd i hiO).2
              rcases Int.lt_trichotomy (O.getD i 0 - jv y) 0 with g | g | g
              · rw [sgn_neg g] at h; omega
              · rw [g] at h; simp at h
              · omega) ?_
            refine cmp_split _ rfl (fun h0 => ?_) (fun h0 => ?_)
            · obtain ⟨i', rfl⟩ : ∃ i', i = i' + 1 := ⟨i - 1, by omega⟩
              have hu := hup i' hiO
              refine ar rfl qI ?_
              refine index_fact (v := q) qM (i') (by omega) (by rw [hml]; omega) fun a9 => ?_
              refine load_fact (d := J ((O.map cn).getD (i') z0)) qM (load_J _) fun d5 => ?_
              refine index_fact (v := q) qM (i' + 1) (by omega) (by rw [hml]; omega) fun a9 => ?_
              refine load_fact (d := J ((O.map cn).getD (i' + 1) z0)) qM (load_J _) fun d6 => ?_
              refine call_fn (hne i' hiO d5 d6) (Seals.refl _ _) qS ?_
              rintro _ _ _ ⟨rfl, rfl, rfl⟩
              refine cmp_false rfl (fun h => by rw [sgn_neg (show O.getD i' 0 - O.getD (i' + 1) 0 < 0 by omega)] at h; omega) ?_
              refine ar rfl qI ?_
              refine again (i' + 1 + 1) (by omega) (by simp only; omega) (by simp only; rw [hBs]; exact qF) ?_
              exact Seals.sub (fs' := [(q, vd O)]) qS
            · refine ar rfl qI ?_
              refine again (i + 1) (by omega) (by simp only; omega) (by simp only; rw [hBs]; exact qF) ?_
              exact Seals.sub (fs' := [(q, vd O)]) qS
      · have hiO : O.length = i := by omega
        subst hiO
        rw [inB_all]
        refine cmp_true rfl rfl ?_
        refine cmp_true rfl rfl ?_
        refine cmp_split _ rfl (fun hg => ?_) (fun hg => ?_)
        · rw [decide_eq_true (hM.2 hg)]
          refine beq_split (fun _ => ?_) (fun h => absurd rfl h)
          exact fin ⟨rfl, rfl, rfl⟩ (Seals.trans (Seals.drop 0 _ _) (Seals.trans (Seals.drop 0 _ _) (Seals.trans (Seals.drop 0 _ _) (Seals.nil _ _))))
        · rw [decide_eq_false (fun h => hg (hM.1 h))]
          refine beq_split (fun _ => ?_) (fun h => absurd rfl h)
          exact fin ⟨rfl, rfl, rfl⟩ (Seals.trans (Seals.drop 0 _ _) (Seals.trans (Seals.drop 0 _ _) (Seals.trans (Seals.drop 0 _ _) (Seals.nil _ _))))
end Go.Proofs.Ytgpcepcbdpigfaa
namespace Go.Proofs.Ytgpcepcbdpigfaa
open Go.ChangeShapes Go.WideShapes Go.ChangeAt Go.RowKit
open Go.Joins (open_agg2)
set_option maxRecDepth 100000 in
theorem rootsFloors_lifted (os : Os) (started : os.Started) (H : Type) (enc : TypeId × Value → H) :
    ReturnsInHanded {} Try.checked os 6 .any (Rows.rootsFloorsSpec.pre6 enc Try.prog Try.f6 Rows.rootsFloorsRow.domain false) (Rows.rootsFloorsSpec.post enc Try.prog Try.f6 false true false false) := by
  refine returnsInHanded_of_change (C := Try.checked) own0 started (by kernel_rfl) Try.func6
    (ChangeSpec.witness6 (enc := enc) (C := Try.checked) false ⟨#[], #[.slice none 0 0, .agg #[.bool false, .slice none 0 0], .agg #[.bool false, .slice none 0 0], .agg #[.bool false, .slice none 0 0]], []⟩ 8 (by kernel_rfl) (by kernel_rfl) (by kernel_rfl) (by kernel_rfl)) ?_
  intro Wd base args ds gs before hval0 hW hcnd _
  have hval : ∀ (j : Nat) t v, Try.f6.params[j]? = some t → args[j]? = some v → Value.okWide Try.prog Wd .any base t v := hval0
  have hW' := hW
  obtain ⟨p, q, hA0, hV, rfl, hfz, hnd⟩ := hW
  have hA : DataW.TrodAll enc Try.prog Wd 0 (fun _ => true) true Try.f6.params.toList args.toList ds p := hA0
  rw [Try.params6] at hA hval
  obtain ⟨v0, vs0, d0, ds0, p0, q0, hargs, rfl, rfl, h0, r0⟩ := trodAll_cons hA
  obtain ⟨v1, vs1, d1, ds1, p1, q1, rfl, rfl, rfl, h1, r1⟩ := trodAll_cons r0
  obtain ⟨v2, vs2, d2, ds2, p2, q2, rfl, rfl, rfl, h2, r2⟩ := trodAll_cons r1
  obtain ⟨v3, vs3, d3, ds3, p3, q3, rfl, rfl, rfl, h3, r3⟩ := trodAll_cons r2
  obtain ⟨rfl, rfl, rfl⟩ := trodAll_nil r3
  obtain rfl : args = #[v0, v1, v2, v3] := by cases args; simp_all
  obtain ⟨rfl, rfl⟩ := trodVars_none hV
  obtain ⟨a0, n0, c0, rfl⟩ := okWide_slice Try.underlying23 (hval 0 23 v0 rfl rfl)
  have k0 := h0
  have lt0 : ∀ x ∈ p0, x.block < Wd.heap.size := by obtain ⟨m, hm⟩ := k0; exact DataW.trod_lt m _ _ _ hm
  obtain ⟨m0, lm0, rd0⟩ : ∃ m, limR m ∧ Rd (fun b => b < Wd.heap.size) Wd (.slice a0 n0 c0) (V m) := by
    obtain ⟨fuel, hf⟩ := h0
    obtain ⟨m, e1, e2⟩ := rd_poly hf
    exact ⟨m, e1, rd_val rfl e2⟩
  have k1 := h1
  have lt1 : ∀ x ∈ p1, x.block < Wd.heap.size := by obtain ⟨m, hm⟩ := k1; exact DataW.trod_lt m _ _ _ hm
  obtain ⟨m1, lm1, rd1⟩ : ∃ m : Bool × List Nat, Lim m.2 ∧ Rd (fun b => b < Wd.heap.size) Wd v1 (J m) := rd_arg (hval 1 26 v1 rfl rfl) h1
  have k2 := h2
  have lt2 : ∀ x ∈ p2, x.block < Wd.heap.size := by obtain ⟨m, hm⟩ := k2; exact DataW.trod_lt m _ _ _ hm
  obtain ⟨m2, lm2, rd2⟩ : ∃ m : Bool × List Nat, Lim m.2 ∧ Rd (fun b => b < Wd.heap.size) Wd v2 (J m) := rd_arg (hval 2 26 v2 rfl rfl) h2
  have k3 := h3
  have lt3 : ∀ x ∈ p3, x.block < Wd.heap.size := by obtain ⟨m, hm⟩ := k3; exact DataW.trod_lt m _ _ _ hm
  obtain ⟨m3, lm3, rd3⟩ : ∃ m : Bool × List Nat, Lim m.2 ∧ Rd (fun b => b < Wd.heap.size) Wd v3 (J m) := rd_arg (hval 3 26 v3 rfl rfl) h3
  clear hA0 hval0
  refine (calls_of_meets (w := Wd) (rfloors_meets (.slice a0 n0 c0) v1 v2 v3 m0 m1 m2 m3 lm0 lm1 lm2 lm3) ?_).mono fun e W2 ⟨he, bel⟩ => ?_
  · intro F hF
    simp only [List.mem_cons, List.not_mem_nil, or_false] at hF
    rcases hF with rfl | rfl | rfl | rfl
    · exact rd0
    · exact rd1
    · exact rd2
    · exact rd3
  subst he
  exact ⟨_, rfl, _, _, _, [], _, [], hW', trodAll_mk1 (shut_bool Try.underlying4 _), (trodAll_cons_mk (Below.trod laid0 (by kernel_rfl) (of_decide_eq_true (by kernel_rfl)) k0 bel lt0) (trodAll_cons_mk (Below.trod laid0 (by kernel_rfl) (of_decide_eq_true (by kernel_rfl)) k1 bel lt1) (trodAll_cons_mk (Below.trod laid0 (by kernel_rfl) (of_decide_eq_true (by kernel_rfl)) k2 bel lt2) (trodAll_cons_mk (Below.trod laid0 (by kernel_rfl) (of_decide_eq_true (by kernel_rfl)) k3 bel lt3) trodAll_mk0)))), rfl, bel.frame _, fun h => by cases h⟩
theorem rootsFloors_holds : Rows.RootsFloorsSaid :=
  OpenClaim.holds_of_wide 6 Try.f6 rfl rfl rfl rfl rfl rfl rfl ⟨rfl, rfl, rfl, rfl, rfl⟩ rfl rfl rfl rfl rfl (by kernel_rfl) Try.func6 (by kernel_rfl)
    (of_decide_eq_true (by kernel_rfl)) (by unfold Func.isWrapper; first | (rw [if_pos (by decide +kernel)]; kernel_rfl) | (rw [if_neg (by decide +kernel)]; exact ⟨rfl, rfl⟩))
    (fun os started H enc _ => rootsFloors_lifted os started H enc)
#print axioms rootsFloors_holds
end Go.Proofs.Ytgpcepcbdpigfaa
