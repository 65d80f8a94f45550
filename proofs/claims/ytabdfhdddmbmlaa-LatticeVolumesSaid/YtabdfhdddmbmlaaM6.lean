/- The law LatticeVolumes is true of each input, and changes none. No condition. -/
import Derived.Test.YtabdfhdddmbmlaaM5
import Derived.Test.YtabdfhdddmbmlaaRows
import Derived.OpenShut
import Derived.Below
import Derived.Lib.SmallJoins
set_option linter.unusedVariables false
set_option linter.unusedSimpArgs false

namespace Go.Proofs.Ytabdfhdddmbmlaa
open Go.RowKit
theorem little4_meets (v : Value) (a : List Row) :
    Meets Try.prog 10 [v] [(v, W a)] (fun r os fs => os = [] ∧ fs = [] ∧ r = .bool (decide (small 4 5 1 a))) := by
  refine meets_of_vc Try.func10 (by kernel_rfl) rfl (by kernel_rfl) (Nat.le_of_ble_eq_true rfl) ?_
  refine call_fn (rowsFits_meets v a 4 5 1) (Seals.refl _ _) mS ?_
  rintro _ _ _ ⟨rfl, rfl, rfl⟩
  exact fin ⟨rfl, rfl, rfl⟩ (Seals.nil _ _)
/-- The reduced rows as they are told, and the matrix. -/
noncomputable def M1 (a : List Row) : List (List Int) := matL a.length (a.getD 0 []).length (lrd a).1
noncomputable def M2 (a : List Row) : List (List Int) := matL a.length a.length (lrd a).2
theorem M1_at (a : List Row) {i c : Nat} (hi : i < a.length) (hc : c < (a.getD 0 []).length) : mx (M1 a) i c = (lrd a).1 i c := matL_at _ hi hc
theorem M2_at (a : List Row) {i c : Nat} (hi : i < a.length) (hc : c < a.length) : mx (M2 a) i c = (lrd a).2 i c := matL_at _ hi hc
theorem matL_len0 {R C : Nat} (x : Mx) (hR : 0 < R) : ((matL R C x).getD 0 []).length = C := by rw [matL_row x hR]; simp
theorem matL_right {R C : Nat} (x : Mx) (hR : 0 < R) (hC : 0 < C) : right (matL R C x) := by
  refine ⟨by rw [matL_len]; exact hR, fun r hr => ?_⟩
  rw [matL_len0 x hR]
  unfold matL at hr
  obtain ⟨i, _, rfl⟩ := List.mem_map.1 hr
  simp [hC]
theorem matL_szM {R C e : Nat} {x : Mx} (h : ∀ i c, i < R → c < C → sz (x i c) e) : szM e (matL R C x) := fun r hr y hy => by
  unfold matL at hr
  obtain ⟨i, hi, rfl⟩ := List.mem_map.1 hr
  obtain ⟨c, hc, rfl⟩ := List.mem_map.1 hy
  exact h i c (List.mem_range.1 hi) (List.mem_range.1 hc)
/-- What is known of reduced rows. -/
structure Rdd (a : List Row) (k : Nat) : Prop where
  lb : LB (rvm a) (a.getD 0 []).length a.length (lD k a.length) (lK k a.length) (lrd a).1 (lrd a).2
  rd : Rdc (a.getD 0 []).length (lrd a).1 a.length
  dn : dm (a.getD 0 []).length (lrd a).1 a.length = dm (a.getD 0 []).length (rvm a) a.length
theorem rdd {a : List Row} {k : Nat} (hf : Fits k a) (hr : right a) (ln : a.length ≤ 1024) (lc : (a.getD 0 []).length ≤ 1048576) (hI : Ind (a.getD 0 []).length a.length (rvm a)) : Rdd a k := by
  obtain ⟨f, hf'⟩ := lrr_spec hI
  have hs := (Sv.start hf lc ln hI).lb
  have hn := hr.1
  obtain ⟨h1, h2, h3⟩ := lrun_red hf' (Nat.le_refl _) (by omega) hI fun i h1 h2 => by omega
  exact ⟨lrun_LB (by omega) (by unfold lK; omega) hf' (Nat.le_refl _) hs, h1, h3⟩
section
variable {a : List Row} {k : Nat}
theorem Rdd.same (_ : Rdd a k) : ∀ i c, i < a.length → c < (a.getD 0 []).length → mx (M1 a) i c = (lrd a).1 i c := fun _ _ hi hc => M1_at a hi hc
theorem Rdd.ind (h : Rdd a k) : Ind (a.getD 0 []).length a.length (mx (M1 a)) := h.lb.ind.same h.same
theorem Rdd.rdc (h : Rdd a k) : Rdc (a.getD 0 []).length (mx (M1 a)) a.length := h.rd.same h.same
theorem Rdd.dm (h : Rdd a k) : dm (a.getD 0 []).length (mx (M1 a)) a.length = dm (a.getD 0 []).length (rvm a) a.length := by rw [dm_same h.same (Nat.le_refl _), h.dn]
theorem Rdd.len (_ : Rdd a k) : (M1 a).length = a.length := matL_len _ _ _
theorem Rdd.right (_ : Rdd a k) (hr : right a) : right (M1 a) := matL_right _ hr.1 (hr.get hr.1).1
theorem Rdd.fits (h : Rdd a k) : Fits (lK k a.length) ((M1 a).map (·.map cn)) := (matL_szM fun i c hi hc => h.lb.bz i c hi hc).fits
end
theorem lred_ok {a : List Row} (hr : right a) (hI : Ind (a.getD 0 []).length a.length (rvm a)) : lred a = (M1 a, M2 a, 0) := by
  unfold lred
  rw [if_pos hr, if_neg ((ind_iff a).1 hI)]; rfl
theorem lred_bad {a : List Row} (h : ¬ (right a ∧ Ind (a.getD 0 []).length a.length (rvm a))) : (lred a).1 = [] ∧ (lred a).2.1 = [] ∧ (lred a).2.2 = if right a then 8 else 1 := by
  unfold lred
  by_cases hr : right a
  · have h0 : linD a = 0 := Classical.byContradiction fun hne => h ⟨hr, (ind_iff a).2 hne⟩
    rw [if_pos hr, if_pos h0, if_pos hr]; exact ⟨rfl, rfl, rfl⟩
  · rw [if_neg hr, if_neg hr]; exact ⟨rfl, rfl, rfl⟩
theorem lZ_small {n : Nat} (h : n ≤ 4) : lZ 1 n ≤ 268435456 ∧ lZ (lK 1 n) n ≤ 268435456 ∧ lD (lK 1 n) n + lK (lK 1 n) n + 2 ≤ 268435456 ∧ lD 1 n + lK 1 n + 2 ≤ 268435456 ∧ lK 1 n ≤ 73 := by
  have : n = 0 ∨ n = 1 ∨ n = 2 ∨ n = 3 ∨ n = 4 := by omega
  rcases this with rfl | rfl | rfl | rfl | rfl <;> decide
end Go.Proofs.Ytabdfhdddmbmlaa

namespace Go.Proofs.Ytabdfhdddmbmlaa
open Go.RowKit
theorem rtimes_eq {Sl P s c Sa y a : Nat} (h : Sl + P * c = Sa * y) (hs : s = c + a * y) : Sl + P * (s % 4294967296) + P * 4294967296 * (s / 4294967296) = (Sa + P * a) * y := by
  have h1 : P * (s % 4294967296) + P * 4294967296 * (s / 4294967296) = P * c + P * (a * y) := by
    rw [Nat.mul_assoc, ← Nat.mul_add, Nat.mod_add_div, hs, Nat.mul_add]
  rw [Nat.add_mul, Nat.mul_assoc P a y]
  omega
theorem rtimes_meets (va : Value) (a : List Nat) (y : Nat) (ha : Dig a) (hy : y < 4294967296) (la : a.length ≤ 2199023255552) :
    Meets Try.prog 79 [va, .int .u64 (y : Nat)] [(va, U a)] (fun r os fs => os = [] ∧ fs = [(r, U (digs (dv a * y)))]) := by
  refine meets_of_vc Try.func79 (by kernel_rfl) rfl (by kernel_rfl) (Nat.le_of_ble_eq_true rfl) ?_
  refine loop_rule (X := Nat × List Nat × Nat × Value) (fun x => ([(0, va), (1, .int .u64 (y : Nat)), (5, x.2.2.2), (6, .int .u64 (x.2.2.1 : Nat)), (7, .int .i64 (x.1 : Nat))], [ownU x.2.2.2 x.2.1], [(va, U a)]))
    (fun x => x.1 ≤ a.length + 1 ∧ (a.length < x.1 → x.2.2.1 = 0) ∧ x.2.1.length = x.1 ∧ Dig x.2.1 ∧ x.2.2.1 < 4294967296 ∧ isSl x.2.2.2 ∧
      dv x.2.1 + 4294967296 ^ x.1 * x.2.2.1 = dv (a.take x.1) * y) (fun x => (a.length - x.1) * 4294967296 + x.2.2.1) rfl ?_ ?_
  · exact again (0, [], 0, .slice none 0 0) ⟨by simp, fun _ => rfl, rfl, Dig.nil, by simp, isSl_nil, by simp [dv]⟩ trivial mF ((Seals.nil_U _ _).trans (Seals.sub mS))
  · rintro ⟨i, l, c, vo⟩ ⟨h1, hz, h2, h3, h4, h0, h5⟩
    simp only at h0 h1 hz h2 h3 h4 h5 ⊢
    have hx := ha.get i
    by_cases hia : i < a.length
    · have hp : a.getD i 0 * y ≤ 4294967295 * 4294967295 := Nat.mul_le_mul (by omega) (by omega)
      have hm : (a.length - i) * 4294967296 = (a.length - (i + 1)) * 4294967296 + 4294967296 := by omega
      refine len_fact mM fun _ => ?_
      refine cmp_true rfl (by omega) ?_
      refine len_fact mM fun _ => ?_
      refine cmp_true rfl (by omega) ?_
      refine index_fact mM i rfl hia fun p => ?_
      refine load_one mM ?_
      refine ar_wrap rfl ((a.getD i 0 * y : Nat) : Int) (by rw [← Int.natCast_mul]; exact wrap_in ⟨Int.natCast_nonneg _, by omega⟩) ?_
      have hs : c + a.getD i 0 * y = c + a.getD i 0 * y := rfl
      generalize hq : a.getD i 0 * y = q at *
      refine ar_wrap rfl ((c + q : Nat) : Int) (by rw [← Int.natCast_add]; exact wrap_in ⟨Int.natCast_nonneg _, by omega⟩) ?_
      generalize hse : c + q = s at *
      refine rem_rule (by omega) (by omega) ?_
      refine lit_U ((s) % 4294967296) (by omega) fun w => ?_
      refine append_U 0 rfl h0 (Knw.fact mM) (by simp; omega) (by simp; omega) fun v2 hv2 => ?_
      refine quo_rule (by omega) (by omega) mI ?_
      refine ar rfl mI ?_
      refine again (i + 1, l ++ [(s) % 4294967296], (s) / 4294967296, v2) ⟨by simp only; omega, fun h => by simp only at h ⊢; omega, by simp [h2], h3.append (Dig.cons (by omega) Dig.nil), by simp only; omega, hv2, ?_⟩ (by simp only; omega) mF (Seals.sub mS)
      simp only
      rw [dv_append, h2, dv_take_succ, Nat.pow_succ]
      simp only [dv, Nat.mul_zero, Nat.add_zero]
      exact rtimes_eq h5 (by rw [hq, hse])
    · have ha0 := getD_of_le (l := a) (i := i) (by omega)
      by_cases hc : 0 < c
      · (repeat (first | (refine len_fact mM fun _ => ?_) | (refine cmp_true rfl (by omega) ?_) | (refine cmp_false rfl (by omega) ?_) | (refine index_fact mM _ rfl (by omega) fun _ => ?_) | (refine load_one mM ?_) | (refine ar rfl mI ?_)))
        refine rem_rule (by omega) (by omega) ?_
        refine lit_U ((c) % 4294967296) (by omega) fun w => ?_
        refine append_U 0 rfl h0 (Knw.fact mM) (by simp; omega) (by simp; omega) fun v2 hv2 => ?_
        refine quo_rule (by omega) (by omega) mI ?_
        refine ar rfl mI ?_
        refine again (i + 1, l ++ [(c) % 4294967296], (c) / 4294967296, v2) ⟨by simp only; omega, fun h => by simp only at h ⊢; omega, by simp [h2], h3.append (Dig.cons (by omega) Dig.nil), by simp only; omega, hv2, ?_⟩ (by simp only; omega) mF (Seals.sub mS)
        simp only
        rw [dv_append, h2, dv_take_succ, Nat.pow_succ]
        simp only [dv, Nat.mul_zero, Nat.add_zero]
        exact rtimes_eq h5 (by rw [ha0, Nat.zero_mul, Nat.add_zero])
      · (repeat (first | (refine len_fact mM fun _ => ?_) | (refine cmp_true rfl (by omega) ?_) | (refine cmp_false rfl (by omega) ?_) | (refine index_fact mM _ rfl (by omega) fun _ => ?_) | (refine load_one mM ?_) | (refine ar rfl mI ?_)))
        refine call_fn (rTrim_meets vo l) (Seals.U 0 rfl h0) mS ?_
        rintro r _ _ ⟨rfl, rfl⟩
        refine fin ⟨rfl, rfl⟩ (Seals.cons ((Knw.fact mM).cast ?_) (Seals.nil _ _))
        rw [List.take_of_length_le (by omega), show c = 0 by omega] at h5
        rw [trimD_eq h3]
        congr 2
end Go.Proofs.Ytabdfhdddmbmlaa

namespace Go.Proofs.Ytabdfhdddmbmlaa
open Go.RowKit
end Go.Proofs.Ytabdfhdddmbmlaa

namespace Go.Proofs.Ytabdfhdddmbmlaa
open Go.RowKit
end Go.Proofs.Ytabdfhdddmbmlaa

namespace Go.Proofs.Ytabdfhdddmbmlaa
open Go.RowKit
theorem linD_vol {a : List Row} (hr : right a) : lvol a = linD a := by unfold lvol; rw [if_pos hr]; rfl
section
variable {a : List Row} {k : Nat}
theorem Rdd.rvm (_ : Rdd a k) : Go.Proofs.Ytabdfhdddmbmlaa.rvm ((M1 a).map (·.map cn)) = mx (M1 a) := rvm_cn _
/-- Each row that was handed in is a sum of the reduced ones. -/
theorem Rdd.back (h : Rdd a k) : ∃ w : Mx, ∀ i c, i < a.length → c < (a.getD 0 []).length → comb a.length (w i) (mx (M1 a)) c = Go.Proofs.Ytabdfhdddmbmlaa.rvm a i c := by
  obtain ⟨w, hw⟩ := back_rows h.lb.ua h.lb.un
  refine ⟨w, fun i c hi hc => ?_⟩
  rw [← hw i c hi hc]
  exact isum_congr fun s hs => by rw [h.same s c hs hc]
theorem Rdd.uz (h : Rdd a k) (hf : Fits k a) (ln : a.length ≤ 1024) (lc : (a.getD 0 []).length ≤ 1048576) (hI : Ind (a.getD 0 []).length a.length (Go.Proofs.Ytabdfhdddmbmlaa.rvm a)) :
    Fits (lK k a.length + k + 1 + ((k + k + 2) * a.length + 1) + 1) ((M2 a).map (·.map cn)) :=
  (matL_szM fun i j hi hj => h.lb.uz (by omega) (by omega) (fun i c _ _ => rv_sz (hf.get i) c) (vol_of_ind hI) hi hj).fits
theorem Rdd.det (h : Rdd a k) : det a.length (mx (M2 a)) = 1 ∨ det a.length (mx (M2 a)) = -1 := by
  rw [det_congr fun i j hi hj => M2_at a hi hj]; exact h.lb.un
end
theorem lB_small {n : Nat} (h : n ≤ 4) : Eb (1 + 1 + 1) n ≤ 17179869184 ∧ Eb (lK 1 n + lK 1 n + 1) n ≤ 17179869184 ∧ Eb (lK 1 n + 1 + 1 + ((1 + 1 + 2) * n + 1) + 1) n ≤ 17179869184 ∧ lK 1 n + 1 + 1 + ((1 + 1 + 2) * n + 1) + 1 ≤ 100 := by
  have : n = 0 ∨ n = 1 ∨ n = 2 ∨ n = 3 ∨ n = 4 := by omega
  rcases this with rfl | rfl | rfl | rfl | rfl <;> decide
end Go.Proofs.Ytabdfhdddmbmlaa

namespace Go.Proofs.Ytabdfhdddmbmlaa
open Go.RowKit
theorem rshift_meets (n : Int) : Meets Try.prog 78 [.int .i64 n] [] (fun r os fs => os = [] ∧ fs = [] ∧ r = .int .i64 (far n : Nat)) := by
  refine meets_of_vc Try.func78 (by kernel_rfl) rfl (by kernel_rfl) (Nat.le_of_ble_eq_true rfl) ?_
  refine min2_rule ?_
  refine max2_rule ?_
  have hK : max 0 (min n 8192) = (far n : Int) := by unfold far; omega
  rw [hK]
  exact fin ⟨rfl, rfl, rfl⟩ (Seals.nil _ _)
theorem rShl01_meets (v : Value) (a : List Nat) (n : Int) (ha : Lim a) (la : a.length ≤ 274877906944) :
    Meets Try.prog 52 [v, .int .i64 n] [(v, U a)] (fun r os fs => os = [] ∧ fs = [(r, U (lims (nv a * 2 ^ far n)))]) := by
  have hK2 : far n ≤ 8192 := by unfold far; omega
  have hsh := rshift_meets n
  generalize far n = K at *
  have hq : K / 32 ≤ 256 := by omega
  have hs : K % 32 < 32 := Nat.mod_lt _ (by decide)
  have hpow : 2 ^ K = 4294967296 ^ (K / 32) * 2 ^ (K % 32) := by
    rw [show (4294967296 : Nat) = 2 ^ 32 from rfl, ← Nat.pow_mul, ← Nat.pow_add, Nat.div_add_mod K 32]
  have h2s : 2 ^ (K % 32) < 4294967296 := Nat.lt_of_lt_of_le (Nat.pow_lt_pow_right (by decide) hs) (by decide)
  have h1 := digs_len ha
  have h3 : (digs (nv a * 2 ^ (K % 32))).length ≤ 2 * a.length + 1 := by
    refine digs_length_le ?_
    rw [Nat.pow_succ, pow_two_mul]
    exact Nat.mul_lt_mul'' (nv_lt ha) h2s
  have hval : dv (List.replicate (K / 32) 0 ++ digs (nv a * 2 ^ (K % 32))) = nv a * 2 ^ K := by
    rw [dv_append, dv_replicate, dv_digs, List.length_replicate, hpow, Nat.zero_add]
    rw [Nat.mul_left_comm]
  refine meets_of_vc Try.func52 (by kernel_rfl) rfl (by kernel_rfl) (Nat.le_of_ble_eq_true rfl) ?_
  refine call_fn hsh (Seals.refl _ _) mS ?_
  rintro _ _ _ ⟨rfl, rfl, rfl⟩
  refine call_fn (digits_meets v a ha (by omega)) (Seals.refl _ _) mS ?_
  rintro x _ _ ⟨rfl, rfl⟩
  refine rem_rule (by omega) (by decide) ?_
  refine conv_int ⟨_, Try.underlying3⟩ Try.underlying92 ((K : Int) % 32) (wrap_in ⟨by omega, by omega⟩) ?_
  refine shl_rule 1 (K % 32) rfl (by omega) (by omega) ?_
  have e1 : ((1 * 2 ^ (K % 32) % 18446744073709551616 : Nat) : Int) = ((2 ^ (K % 32) : Nat) : Int) := by
    rw [Nat.one_mul, Nat.mod_eq_of_lt (by omega)]
  rw [e1]
  refine call_fn (rtimes_meets x (digs (nv a)) (2 ^ (K % 32)) (Dig_digs _) h2s (by omega)) (Seals.refl _ _) mS ?_
  rintro y _ _ ⟨rfl, rfl⟩
  rw [dv_digs]
  refine quo_rule (by omega) (by decide) ⟨by omega, by omega⟩ ?_
  refine make_U (K / 32) (by omega) (by omega) (by omega) (by omega) fun z hz => ?_
  refine append_U 0 rfl hz (Knw.fact mM) (by rw [List.length_replicate]; omega) (by rw [List.length_replicate]; omega) fun z2 hz2 => ?_
  refine call_fn (limbs_meets z2 (List.replicate (K / 32) 0 ++ digs (nv a * 2 ^ (K % 32))) (Dig.append (Dig.replicate _) (Dig_digs _)) (by rw [List.length_append, List.length_replicate]; omega)) (Seals.U 0 rfl hz2) mS ?_
  rintro r _ _ ⟨rfl, rfl⟩
  rw [hval]
  exact fin ⟨rfl, rfl⟩ (Seals.sub mS)
theorem rShlJ (v : Value) (x : Bool × List Nat) (n : Int) (hx : Lim x.2) (lx : x.2.length ≤ 274877906944) :
    Meets Try.prog 22 [v, .int .i64 n] [(v, J x)] (fun r os fs => os = [] ∧ fs = [(r, zd (jv x * 2 ^ far n))]) := by
  have e : iv x.1 (lims (nv x.2 * 2 ^ far n)) = jv x * 2 ^ far n := by
    unfold jv iv
    rw [nv_lims]
    cases x.1 <;> simp [Int.neg_mul]
  have hl : (lims (nv x.2 * 2 ^ far n)).length ≤ x.2.length + 129 := by
    refine lims_length_le ?_
    rw [Nat.pow_add]
    have hK2 : far n ≤ 8192 := by unfold far; omega
    have key : ∀ K m : Nat, K < 64 * m → 2 ^ K < 18446744073709551616 ^ m := fun K m h => by
      rw [show (18446744073709551616 : Nat) = 2 ^ 64 from rfl, ← Nat.pow_mul]
      exact Nat.pow_lt_pow_right (by decide) h
    exact Nat.mul_lt_mul'' (nv_lt hx) (key _ _ (by omega))
  refine meets_of_vc Try.func22 (by kernel_rfl) rfl (by kernel_rfl) (Nat.le_of_ble_eq_true rfl) ?_
  refine box_rule (Reads.fact (d := I x.1 x.2) mM) fun p hp => ?_
  refine alloc_rule (d := I false []) fun o ho => ?_
  refine draw_rule [0, 1, 2, 3, 4, 5, 6, 7] [0, 1, 2, 3, 4, 5, 6, 7] (by kernel_rfl) (by kernel_rfl) ?_
  refine field_box 1 rfl hp ?_
  refine load_box_field_one 1 rfl (Part.left (Part.refl _)) ?_
  refine field_box 1 rfl hp ?_
  refine load_box_field 1 rfl (Part.right (Part.refl _)) (load_L _) fun u1 => ?_
  refine call_fn (rShl01_meets u1 x.2 n hx lx) (Seals.refl _ _) mS ?_
  rintro u2 _ _ ⟨rfl, rfl⟩
  refine call_fn (rMake_meets u2 x.1 (lims (nv x.2 * 2 ^ far n)) (Lim_lims _) (by omega)) (Seals.refl _ _) mS ?_
  rintro u3 _ _ ⟨rfl, rfl⟩
  rw [e]
  refine store_box (d := zd (jv x * 2 ^ far n)) 0 rfl ho rfl (by kernel_rfl) ?_ ?_; exact Reads.fact mM
  refine load_box (d := zd (jv x * 2 ^ far n)) 0 rfl ho rfl (load_I _ _) fun r => ?_
  exact fin ⟨rfl, rfl⟩ (Seals.trans (Seals.drop 0 _ _) (Seals.trans (Seals.drop 0 _ _) (Seals.sub (fs' := [(r, zd (jv x * 2 ^ far n))]) mS)))
theorem rShlZ (v : Value) (x : Int) (n : Int) (a : Nat) (hx : sz x a) (ha : a ≤ 274877906944) :
    Meets Try.prog 22 [v, .int .i64 n] [(v, zd x)] (fun r os fs => os = [] ∧ fs = [(r, zd (x * 2 ^ far n))]) := by
  have h := rShlJ v (cn x) n (Lim_lims _) (Nat.le_trans hx.len ha)
  rw [jv_cn] at h
  exact h
theorem rCmpZ (v w : Value) (x y : Int) (a : Nat) (hx : sz x a) (hy : sz y a) (ha : a ≤ 137438953471) :
    Meets Try.prog 27 [v, w] [(v, zd x), (w, zd y)] (fun r os fs => os = [] ∧ fs = [] ∧ r = .int .i64 (x - y).sign) := by
  have h := fun y1 y2 => rZSub_meets y1 y2 (decide (x < 0)) (decide (y < 0)) (lims x.natAbs) (lims y.natAbs) (Lim_lims _) (Lim_lims _) (Nat.le_trans hx.len (by omega)) (Nat.le_trans hy.len (by omega))
  simp only [iv_zd] at h
  have hd : sz (x - y) (a + 1) := sz_sub hx hy
  have hs := fun z => rSign_meets z (decide (x - y < 0)) (lims (x - y).natAbs) (Lim_lims _) (Nat.le_trans hd.len (by omega))
  simp only [iv_zd] at hs
  refine meets_of_vc Try.func27 (by kernel_rfl) rfl (by kernel_rfl) (Nat.le_of_ble_eq_true rfl) ?_
  refine box_rule (Reads.fact (d := zd x) mM) fun p hp => ?_
  refine box_rule (Reads.fact (d := zd y) mM) fun q hq => ?_
  refine load_box (d := zd x) 1 rfl hp rfl (load_I _ _) fun y1 => ?_
  refine load_box (d := zd y) 0 rfl hq rfl (load_I _ _) fun y2 => ?_
  refine call_fn (h y1 y2) (Seals.refl _ _) mS ?_
  rintro z _ _ ⟨rfl, rfl⟩
  refine call_fn (hs z) (Seals.refl _ _) mS ?_
  rintro _ _ _ ⟨rfl, rfl, rfl⟩
  exact fin ⟨rfl, rfl, rfl⟩ (Seals.trans (Seals.drop 0 _ _) (Seals.trans (Seals.drop 0 _ _) (Seals.nil _ _)))
end Go.Proofs.Ytabdfhdddmbmlaa

namespace Go.Proofs.Ytabdfhdddmbmlaa
open Go.RowKit
theorem ldt_self {x : Row} {C : Nat} (h : x.length = C) : ldt x x = ip C (rv x) (rv x) := by unfold ldt; rw [if_pos rfl, h]
/-- The reduced rows as raw rows. -/
noncomputable def RR (a : List Row) : List Row := (M1 a).map (·.map cn)
section
variable {a : List Row} {k : Nat}
theorem Rdd.rlen (h : Rdd a k) : (RR a).length = a.length := by unfold RR; rw [List.length_map, h.len]
theorem Rdd.rrow (_ : Rdd a k) {i : Nat} (hi : i < a.length) : ((RR a).getD i []).length = (a.getD 0 []).length := by
  unfold RR M1; rw [get_cn, List.length_map, matL_row _ hi]; simp
theorem Rdd.rrv (_ : Rdd a k) (i : Nat) : rv ((RR a).getD i []) = mx (M1 a) i := congrFun (rvm_cn (M1 a)) i
theorem Rdd.rfits (h : Rdd a k) : Fits (lK k a.length) (RR a) := h.fits
/-- A sum of the rows is a sum of the reduced ones. -/
theorem Rdd.sum (h : Rdd a k) (c : Nat → Int) : ∃ d : Nat → Int, ∀ t, t < (a.getD 0 []).length → comb a.length c (Go.Proofs.Ytabdfhdddmbmlaa.rvm a) t = comb a.length d (mx (M1 a)) t := by
  obtain ⟨w, hw⟩ := h.back
  exact ⟨_, fun t ht => comb_comb c w hw ht⟩
end
end Go.Proofs.Ytabdfhdddmbmlaa

namespace Go.Proofs.Ytabdfhdddmbmlaa
open Go.RowKit
theorem iprod_sz {g : Nat → Int} {e : Nat} : ∀ {n : Nat}, (∀ i, i < n → sz (g i) e) → sz (iprod g n) (e * n + 1)
  | 0, _ => (sz_num 1 (by decide)).mono (by omega)
  | n + 1, h => by
    have := (iprod_sz (g := g) (n := n) fun i hi => h i (by omega)).mul (h n (by omega))
    exact this.mono (by rw [Nat.mul_succ]; omega)
theorem r4MulZ (v w : Value) (x y : Int) (a b : Nat) (hx : sz x a) (hy : sz y b) (ha : a ≤ 137438953472) (hb : b ≤ 137438953472) :
    Meets Try.prog 25 [v, w] [(v, zd x), (w, zd y)] (fun r os fs => os = [] ∧ fs = [(r, zd (x * y))]) := by
  have h := rMulJ v w (cn x) (cn y) (Lim_lims _) (Nat.le_trans hx.len ha) (Lim_lims _) (Nat.le_trans hy.len hb)
  rw [jv_cn, jv_cn] at h
  exact h
theorem sgn_le {x : Int} (h : x ≤ 0) : x.sign ≤ 0 := by
  rcases Int.lt_trichotomy x 0 with h' | h' | h'
  · rw [Int.sign_eq_neg_one_of_neg h']; decide
  · rw [h']; decide
  · omega
theorem sgn_nn {x : Int} (h : 0 ≤ x) : x.sign ≥ 0 := by
  rcases Int.lt_trichotomy x 0 with h' | h' | h'
  · omega
  · rw [h']; decide
  · rw [Int.sign_eq_one_of_pos h']; decide
theorem lvolumes_meets (v : Value) (a : List Row) (ha : limM a) :
    Meets Try.prog 7 [v] [(v, W a)] (fun r os fs => os = [] ∧ fs = [] ∧ r = .bool true) := by
  refine meets_of_vc Try.func7 (by kernel_rfl) rfl (by kernel_rfl) (Nat.le_of_ble_eq_true rfl) ?_
  refine call_fn shown4_meets (Seals.refl _ _) mS ?_
  rintro _ _ _ ⟨rfl, rfl, rfl⟩
  refine call_fn (little4_meets v a) (Seals.refl _ _) mS ?_
  rintro _ _ _ ⟨rfl, rfl, rfl⟩
  by_cases hs : small 4 5 1 a
  case neg =>
    rw [decide_eq_false hs]
    exact fin ⟨rfl, rfl, rfl⟩ (Seals.nil _ _)
  rw [decide_eq_true hs]
  have hf := hs.fits ha
  have hcc := hs.cols
  have hn := hs.1
  obtain ⟨z1, z2, z3, z4, z5⟩ := lZ_small hn
  obtain ⟨b1, b2, b3, b4⟩ := lB_small hn
  have h0 := lReduceT v a 1 hf (by decide) (by omega) (by omega) z1
  by_cases hI : right a ∧ Ind (a.getD 0 []).length a.length (rvm a)
  case neg =>
    obtain ⟨_, _, e3⟩ := lred_bad hI
    have : (lred a).2.2 ≠ 0 := by rw [e3]; split <;> decide
    refine call_fn h0 (Seals.refl _ _) mS ?_
    rintro _ _ _ ⟨rfl, r, u, rfl, rfl⟩
    refine cmp_true rfl this ?_
    exact fin ⟨rfl, rfl, rfl⟩ (Seals.nil _ _)
  obtain ⟨hr, hI⟩ := hI
  have hd := rdd hf hr (by omega) (by omega) hI
  rw [lred_ok hr hI] at h0
  simp only at h0
  have hn1 := hr.1
  have r1 := hd.rlen
  have r4 := hd.rfits
  have e0 : wd (M1 a) = W (RR a) := rfl
  rw [e0] at h0
  have hv := lVolume_meets v a 1 hf (by decide) (by omega) (by omega) b1
  rw [if_pos hr] at hv
  have hLv := linD_vol hr
  -- what stands behind
  have hlen : ∀ i, i < a.length → (a.getD i []).length = (a.getD 0 []).length := fun i hi => (hr.get hi).2
  have ea : ∀ i, i < a.length → ldt (a.getD i []) (a.getD i []) = ip (a.getD 0 []).length (rvm a i) (rvm a i) := fun i hi => ldt_self (hlen i hi)
  have eb : ∀ i, i < a.length → ldt ((RR a).getD i []) ((RR a).getD i []) = ip (a.getD 0 []).length (mx (M1 a) i) (mx (M1 a) i) := fun i hi => by rw [ldt_self (hd.rrow hi), hd.rrv i]
  have m1 : lvol a ≤ iprod (fun i => ip (a.getD 0 []).length (rvm a i) (rvm a i)) a.length := by
    rw [hLv, linD_dm]; exact hadamard hI _ (Nat.le_refl _)
  have m2 : iprod (fun i => ip (a.getD 0 []).length (mx (M1 a) i) (mx (M1 a) i)) a.length ≤ lvol a * 2 ^ (a.length * (a.length - 1) / 2) := by
    have := red_prod hd.ind hd.rdc a.length (Nat.le_refl _)
    rw [hd.dm, ← linD_dm, ← hLv, tri_eq, Int.mul_comm] at this
    exact this
  have m3 : iprod (fun _ => ip (a.getD 0 []).length (mx (M1 a) 0) (mx (M1 a) 0)) a.length ≤ lvol a * 2 ^ (a.length * (a.length - 1) / 2) := by
    have := first_pow hd.ind hd.rdc a.length (Nat.le_refl _)
    have e1 : dm (a.getD 0 []).length (mx (M1 a)) 1 = ip (a.getD 0 []).length (mx (M1 a) 0) (mx (M1 a) 0) := by
      show dG (gr (a.getD 0 []).length (mx (M1 a))) (0 + 1) = _
      rw [dG_succ, mi_none]; rfl
    rw [hd.dm, ← linD_dm, ← hLv, tri_eq, Int.mul_comm, e1] at this
    exact this
  have hvz : sz (lvol a) 17 := by
    rw [hLv, linD_dm]
    unfold dm dG
    have e := det_sz a.length (by omega) (k := 1 + 1 + 1) (x := sub' (gr (a.getD 0 []).length (rvm a)) (dn a.length) (dn a.length)) fun x y _ _ => gmx_sz hf (by omega) _ _
    exact e.mono (by omega)
  have za : ∀ i, sz (ip (a.getD 0 []).length (rvm a i) (rvm a i)) 148 := fun i => (ip_sz (k := 1) (l := 1) (fun t _ => rv_sz (hf.get i) t) (fun t _ => rv_sz (hf.get i) t) (by omega)).mono (by decide)
  have zb : ∀ i, sz (ip (a.getD 0 []).length (mx (M1 a) i) (mx (M1 a) i)) 148 := fun i => by
    rw [← hd.rrv i]
    exact (ip_sz (fun t _ => rv_sz (r4.get i) t) (fun t _ => rv_sz (r4.get i) t) (by omega)).mono (by omega)
  have hDa := fun x y i (hi : i < a.length) => lDot_meets x y (a.getD i []) (a.getD i []) 1 (hf.get i) (hf.get i) (by decide) (by rw [hlen i hi]; omega)
  have hDb := fun x y i (hi : i < a.length) => lDot_meets x y ((RR a).getD i []) ((RR a).getD i []) (lK 1 a.length) (r4.get i) (r4.get i) (by omega) (by rw [hd.rrow hi]; omega)
  have hDa' : ∀ x y i, i < a.length → Meets Try.prog 26 [x, y] [(x, V (a.getD i [])), (y, V (a.getD i []))] (fun r os fs => os = [] ∧ ∃ q, r = .tuple #[q, .int .i64 0] ∧ fs = [(q, zd (ip (a.getD 0 []).length (rvm a i) (rvm a i)))]) := fun x y i hi => by
    have := hDa x y i hi
    rw [if_pos rfl, ea i hi] at this
    exact this
  have hDb' : ∀ x y i, i < a.length → Meets Try.prog 26 [x, y] [(x, V ((RR a).getD i [])), (y, V ((RR a).getD i []))] (fun r os fs => os = [] ∧ ∃ q, r = .tuple #[q, .int .i64 0] ∧ fs = [(q, zd (ip (a.getD 0 []).length (mx (M1 a) i) (mx (M1 a) i)))]) := fun x y i hi => by
    have := hDb x y i hi
    rw [if_pos rfl, eb i hi] at this
    exact this
  clear hDa hDb ea eb hd r4 e0
  generalize hXa : (fun i => ip (a.getD 0 []).length (rvm a i) (rvm a i)) = xa at *
  generalize hXb : (fun i => ip (a.getD 0 []).length (mx (M1 a) i) (mx (M1 a) i)) = xc at *
  have hxa : ∀ i, ip (a.getD 0 []).length (rvm a i) (rvm a i) = xa i := fun i => by rw [← hXa]
  have hxb : ∀ i, ip (a.getD 0 []).length (mx (M1 a) i) (mx (M1 a) i) = xc i := fun i => by rw [← hXb]
  simp only [hxa] at hDa' za
  simp only [hxb] at hDb' zb m3
  generalize lvol a = Vv at *
  generalize RR a = R at *
  have pa : ∀ i, i ≤ a.length → sz (iprod xa i) 593 := fun i hi => (iprod_sz (n := i) fun t _ => za t).mono (by omega)
  have pb : ∀ i, i ≤ a.length → sz (iprod xc i) 593 := fun i hi => (iprod_sz (n := i) fun t _ => zb t).mono (by omega)
  have pc : ∀ i, i ≤ a.length → sz (iprod (fun _ => xc 0) i) 593 := fun i hi => (iprod_sz (n := i) fun t _ => zb 0).mono (by omega)
  refine call_fn h0 (Seals.refl _ _) mS ?_
  rintro _ _ _ ⟨rfl, r, u, rfl, rfl⟩
  refine cmp_false rfl (by decide) ?_
  refine len_fact (v := r) mM fun _ => ?_
  refine len_fact (v := v) mM fun _ => ?_
  refine cmp_false rfl (by omega) ?_
  refine len_fact (v := r) mM fun _ => ?_
  refine cmp_false rfl (by omega) ?_
  refine call_fn hv (Seals.refl _ _) mS ?_
  rintro _ _ _ ⟨rfl, vq, rfl, rfl⟩
  refine alloc_rule (d := I false []) fun vb hvb => ?_
  refine store_box (d := zd Vv) 0 rfl hvb rfl (by kernel_rfl) ?_ ?_; exact Reads.fact mM
  refine call_fn (rOf_meets 1 (by decide) (by decide)) (Seals.refl _ _) mS ?_
  rintro o1 _ _ ⟨rfl, rfl⟩
  refine call_fn (rOf_meets 1 (by decide) (by decide)) (Seals.refl _ _) mS ?_
  rintro o2 _ _ ⟨rfl, rfl⟩
  refine call_fn (rOf_meets 1 (by decide) (by decide)) (Seals.refl _ _) mS ?_
  rintro o3 _ _ ⟨rfl, rfl⟩
  refine alloc_rule (d := I false []) fun nb hnb => ?_
  refine alloc_rule (d := I false []) fun lb hlb => ?_
  refine alloc_rule (d := I false []) fun fb hfb => ?_
  refine store_box (d := zd 1) 2 rfl hnb rfl (by kernel_rfl) ?_ ?_; exact Reads.fact (v := o1) mM
  refine store_box (d := zd 1) 1 rfl hlb rfl (by kernel_rfl) ?_ ?_; exact Reads.fact (v := o2) mM
  refine store_box (d := zd 1) 0 rfl hfb rfl (by kernel_rfl) ?_ ?_; exact Reads.fact (v := o3) mM
  refine loop_rule (X := Nat) (fun i => ([(0, v), (3, .bool true), (4, r), (7, vb), (8, .int .i64 0), (9, nb), (10, lb), (11, fb), (12, .int .i64 (i : Nat))],
      [own1 fb 2 1 (fun _ => zd (iprod (fun _ => xc 0) i)), own1 lb 2 1 (fun _ => zd (iprod xc i)), own1 nb 2 1 (fun _ => zd (iprod xa i)), own1 vb 2 1 (fun _ => zd Vv)], [(r, W R), (v, W a)])) (fun i => i ≤ a.length) (fun i => a.length - i) rfl ?_ ?_
  · exact again 0 (Nat.zero_le _) trivial mF (Seals.trans (Seals.own_cong (os := [_, _, _, _]) 0 (fun _ => zd 1) rfl rfl (fun i hi => by rw [show i = 0 by omega]; rfl)) (Seals.trans (Seals.own_cong (os := [_, _, _, _]) 1 (fun _ => zd 1) rfl rfl (fun i hi => by rw [show i = 0 by omega]; rfl)) (Seals.trans (Seals.own_cong (os := [_, _, _, _]) 2 (fun _ => zd 1) rfl rfl (fun i hi => by rw [show i = 0 by omega]; rfl))
      (Seals.trans (Seals.own_cong (os := [_, _, _, _]) 3 (fun _ => zd Vv) rfl rfl (fun i hi => by rw [show i = 0 by omega]; rfl)) (Seals.sub (fs' := [(r, W R), (v, W a)]) mS)))))
  · rintro i hi
    refine len_fact (v := v) mM fun _ => ?_
    refine cmp_split _ rfl (fun hlt => ?_) (fun hlt => ?_)
    · have hin : i < a.length := by omega
      refine draw_join (X := Value × Value) (fun z => ([(0, v), (3, .bool true), (4, r), (7, vb), (8, .int .i64 0), (9, nb), (10, lb), (11, fb), (12, .int .i64 (i : Nat)), (13, z.1)],
        [own1 z.1 2 1 (fun _ => zd (xa i)), own1 fb 2 1 (fun _ => zd (iprod (fun _ => xc 0) i)), own1 lb 2 1 (fun _ => zd (iprod xc i)), own1 nb 2 1 (fun _ => zd (iprod xa i)), own1 vb 2 1 (fun _ => zd Vv)], [(r, W R), (v, W a)])) (fun z => isBox z.1) ?_ ?_
      ·
        refine draw_ord [0, 1, 2, 3, 4, 5, 6, 7, 8, 9, 10, 12, 13, 11, 14] (by kernel_rfl) ?_
        refine ord_split 8 12 (by kernel_rfl) (by kernel_rfl) (by kernel_rfl) ?_ ?_
        · refine ord_go [0, 1, 2, 3, 4, 5, 6, 7, 8, 9, 10, 11, 12, 13, 14] (by kernel_rfl) (by kernel_rfl) ?_
          refine index_fact (v := v) mM (i) rfl (by omega) fun i1 => ?_
          refine load_fact (d := V (a.getD i [])) mM (load_V _) fun x1 => ?_
          refine index_fact (v := v) mM (i) rfl (by omega) fun i2 => ?_
          refine load_fact (d := V (a.getD i [])) mM (load_V _) fun x2 => ?_
          refine call_fn (hDa' x1 x2 i hin) (Seals.refl _ _) mS ?_
          rintro _ _ _ ⟨rfl, xq, rfl, rfl⟩
          refine alloc_rule (d := I false []) fun xb hxb => ?_
          refine store_box (d := zd (xa i)) 0 rfl hxb rfl (by kernel_rfl) (Reads.fact mM) ?_
          exact again (xb, xb) hxb trivial mF (Seals.trans (Seals.box0 rfl) (Seals.sub (fs' := [(r, W R), (v, W a)]) mS))
        · refine ord_go [0, 1, 2, 3, 4, 5, 6, 7, 12, 8, 9, 10, 11, 13, 14] (by kernel_rfl) (by kernel_rfl) ?_
          refine index_fact (v := v) mM (i) rfl (by omega) fun i1 => ?_
          refine load_fact (d := V (a.getD i [])) mM (load_V _) fun x1 => ?_
          refine index_fact (v := v) mM (i) rfl (by omega) fun i2 => ?_
          refine load_fact (d := V (a.getD i [])) mM (load_V _) fun x2 => ?_
          refine alloc_rule (d := I false []) fun xb hxb => ?_
          refine call_fn (hDa' x1 x2 i hin) (Seals.refl _ _) mS ?_
          rintro _ _ _ ⟨rfl, xq, rfl, rfl⟩
          refine store_box (d := zd (xa i)) 0 rfl hxb rfl (by kernel_rfl) (Reads.fact mM) ?_
          exact again (xb, xb) hxb trivial mF (Seals.trans (Seals.box0 rfl) (Seals.sub (fs' := [(r, W R), (v, W a)]) mS))
      rintro ⟨b13, b13'⟩ hb13
      simp only at hb13 ⊢
      refine draw_join (X := Value × Value) (fun z => ([(0, v), (3, .bool true), (4, r), (7, vb), (8, .int .i64 0), (9, nb), (10, lb), (11, fb), (12, .int .i64 (i : Nat)), (13, b13), (15, z.1)],
        [own1 z.1 2 1 (fun _ => zd (xc i)), own1 b13 2 1 (fun _ => zd (xa i)), own1 fb 2 1 (fun _ => zd (iprod (fun _ => xc 0) i)), own1 lb 2 1 (fun _ => zd (iprod xc i)), own1 nb 2 1 (fun _ => zd (iprod xa i)), own1 vb 2 1 (fun _ => zd Vv)], [(r, W R), (v, W a)])) (fun z => isBox z.1) ?_ ?_
      ·
        refine draw_ord [0, 1, 2, 3, 4, 5, 6, 7, 8, 9, 10, 12, 13, 11, 14] (by kernel_rfl) ?_
        refine ord_split 8 12 (by kernel_rfl) (by kernel_rfl) (by kernel_rfl) ?_ ?_
        · refine ord_go [0, 1, 2, 3, 4, 5, 6, 7, 8, 9, 10, 11, 12, 13, 14] (by kernel_rfl) (by kernel_rfl) ?_
          refine index_fact (v := r) mM (i) rfl (by omega) fun i1 => ?_
          refine load_fact (d := V (R.getD i [])) mM (load_V _) fun x1 => ?_
          refine index_fact (v := r) mM (i) rfl (by omega) fun i2 => ?_
          refine load_fact (d := V (R.getD i [])) mM (load_V _) fun x2 => ?_
          refine call_fn (hDb' x1 x2 i hin) (Seals.refl _ _) mS ?_
          rintro _ _ _ ⟨rfl, xq, rfl, rfl⟩
          refine alloc_rule (d := I false []) fun xb hxb => ?_
          refine store_box (d := zd (xc i)) 0 rfl hxb rfl (by kernel_rfl) (Reads.fact mM) ?_
          exact again (xb, xb) hxb trivial mF (Seals.trans (Seals.box0 rfl) (Seals.sub (fs' := [(r, W R), (v, W a)]) mS))
        · refine ord_go [0, 1, 2, 3, 4, 5, 6, 7, 12, 8, 9, 10, 11, 13, 14] (by kernel_rfl) (by kernel_rfl) ?_
          refine index_fact (v := r) mM (i) rfl (by omega) fun i1 => ?_
          refine load_fact (d := V (R.getD i [])) mM (load_V _) fun x1 => ?_
          refine index_fact (v := r) mM (i) rfl (by omega) fun i2 => ?_
          refine load_fact (d := V (R.getD i [])) mM (load_V _) fun x2 => ?_
          refine alloc_rule (d := I false []) fun xb hxb => ?_
          refine call_fn (hDb' x1 x2 i hin) (Seals.refl _ _) mS ?_
          rintro _ _ _ ⟨rfl, xq, rfl, rfl⟩
          refine store_box (d := zd (xc i)) 0 rfl hxb rfl (by kernel_rfl) (Reads.fact mM) ?_
          exact again (xb, xb) hxb trivial mF (Seals.trans (Seals.box0 rfl) (Seals.sub (fs' := [(r, W R), (v, W a)]) mS))
      rintro ⟨b15, b15'⟩ hb15
      simp only at hb15 ⊢
      refine draw_join (X := Value × Value) (fun z => ([(0, v), (3, .bool true), (4, r), (7, vb), (8, .int .i64 0), (9, nb), (10, lb), (11, fb), (12, .int .i64 (i : Nat)), (13, b13), (15, b15), (17, z.1)],
        [own1 z.1 2 1 (fun _ => zd (xc 0)), own1 b15 2 1 (fun _ => zd (xc i)), own1 b13 2 1 (fun _ => zd (xa i)), own1 fb 2 1 (fun _ => zd (iprod (fun _ => xc 0) i)), own1 lb 2 1 (fun _ => zd (iprod xc i)), own1 nb 2 1 (fun _ => zd (iprod xa i)), own1 vb 2 1 (fun _ => zd Vv)], [(r, W R), (v, W a)])) (fun z => isBox z.1) ?_ ?_
      ·
        refine draw_ord [0, 1, 2, 3, 4, 5, 6, 7, 8, 10, 11, 9, 12] (by kernel_rfl) ?_
        refine ord_split 6 10 (by kernel_rfl) (by kernel_rfl) (by kernel_rfl) ?_ ?_
        · refine ord_go [0, 1, 2, 3, 4, 5, 6, 7, 8, 9, 10, 11, 12] (by kernel_rfl) (by kernel_rfl) ?_
          refine index_fact (v := r) mM (0) rfl (by omega) fun i1 => ?_
          refine load_fact (d := V (R.getD 0 [])) mM (load_V _) fun x1 => ?_
          refine index_fact (v := r) mM (0) rfl (by omega) fun i2 => ?_
          refine load_fact (d := V (R.getD 0 [])) mM (load_V _) fun x2 => ?_
          refine call_fn (hDb' x1 x2 0 hn1) (Seals.refl _ _) mS ?_
          rintro _ _ _ ⟨rfl, xq, rfl, rfl⟩
          refine alloc_rule (d := I false []) fun xb hxb => ?_
          refine store_box (d := zd (xc 0)) 0 rfl hxb rfl (by kernel_rfl) (Reads.fact mM) ?_
          exact again (xb, xb) hxb trivial mF (Seals.trans (Seals.box0 rfl) (Seals.sub (fs' := [(r, W R), (v, W a)]) mS))
        · refine ord_go [0, 1, 2, 3, 4, 5, 10, 6, 7, 8, 9, 11, 12] (by kernel_rfl) (by kernel_rfl) ?_
          refine index_fact (v := r) mM (0) rfl (by omega) fun i1 => ?_
          refine load_fact (d := V (R.getD 0 [])) mM (load_V _) fun x1 => ?_
          refine index_fact (v := r) mM (0) rfl (by omega) fun i2 => ?_
          refine load_fact (d := V (R.getD 0 [])) mM (load_V _) fun x2 => ?_
          refine alloc_rule (d := I false []) fun xb hxb => ?_
          refine call_fn (hDb' x1 x2 0 hn1) (Seals.refl _ _) mS ?_
          rintro _ _ _ ⟨rfl, xq, rfl, rfl⟩
          refine store_box (d := zd (xc 0)) 0 rfl hxb rfl (by kernel_rfl) (Reads.fact mM) ?_
          exact again (xb, xb) hxb trivial mF (Seals.trans (Seals.box0 rfl) (Seals.sub (fs' := [(r, W R), (v, W a)]) mS))
      rintro ⟨b17, b17'⟩ hb17
      simp only at hb17 ⊢
      refine load_box (d := zd (iprod xa i)) 5 rfl hnb rfl (load_I _ _) fun y1 => ?_
      refine load_box (d := zd (xa i)) 2 rfl hb13 rfl (load_I _ _) fun y2 => ?_
      refine call_fn (r4MulZ y1 y2 _ _ 593 148 (pa i hi) (za i) (by decide) (by decide)) (Seals.refl _ _) mS ?_
      rintro y3 _ _ ⟨rfl, rfl⟩
      refine store_box (d := zd (iprod xa (i + 1))) 5 rfl hnb rfl (by kernel_rfl) (Reads.fact (v := y3) mM) ?_
      refine load_box (d := zd (iprod xc i)) 4 rfl hlb rfl (load_I _ _) fun y4 => ?_
      refine load_box (d := zd (xc i)) 1 rfl hb15 rfl (load_I _ _) fun y5 => ?_
      refine call_fn (r4MulZ y4 y5 _ _ 593 148 (pb i hi) (zb i) (by decide) (by decide)) (Seals.refl _ _) mS ?_
      rintro y6 _ _ ⟨rfl, rfl⟩
      refine store_box (d := zd (iprod xc (i + 1))) 4 rfl hlb rfl (by kernel_rfl) (Reads.fact (v := y6) mM) ?_
      refine load_box (d := zd (iprod (fun _ => xc 0) i)) 3 rfl hfb rfl (load_I _ _) fun y7 => ?_
      refine load_box (d := zd (xc 0)) 0 rfl hb17 rfl (load_I _ _) fun y8 => ?_
      refine call_fn (r4MulZ y7 y8 _ _ 593 148 (pc i hi) (zb 0) (by decide) (by decide)) (Seals.refl _ _) mS ?_
      rintro y9 _ _ ⟨rfl, rfl⟩
      refine store_box (d := zd (iprod (fun _ => xc 0) (i + 1))) 3 rfl hfb rfl (by kernel_rfl) (Reads.fact (v := y9) mM) ?_
      refine ar rfl mI ?_
      refine again (i + 1) (by omega) (by simp only; omega) mF (Seals.trans (Seals.drop 0 _ _) (Seals.trans (Seals.drop 0 _ _) (Seals.trans (Seals.drop 0 _ _)
        (Seals.trans (Seals.own_cong (os := [_, _, _, _]) 0 (fun _ => zd (iprod (fun _ => xc 0) (i + 1))) rfl rfl (fun j hj => by rw [show j = 0 by omega]; rfl)) (Seals.trans (Seals.own_cong (os := [_, _, _, _]) 1 (fun _ => zd (iprod xc (i + 1))) rfl rfl (fun j hj => by rw [show j = 0 by omega]; rfl)) (Seals.trans (Seals.own_cong (os := [_, _, _, _]) 2 (fun _ => zd (iprod xa (i + 1))) rfl rfl (fun j hj => by rw [show j = 0 by omega]; rfl)) (Seals.sub (fs' := [(r, W R), (v, W a)]) mS)))))))
    · have hin : i = a.length := by omega
      subst hin
      refine load_box (d := zd Vv) 3 rfl hvb rfl (load_I _ _) fun y1 => ?_
      refine len_fact (v := v) mM fun _ => ?_
      refine len_fact (v := v) mM fun _ => ?_
      refine ar rfl mI ?_
      have hsq : (a.length : Int) * ((a.length : Int) - 1) = ((a.length * (a.length - 1) : Nat) : Int) := by
        rw [Int.natCast_mul, Int.natCast_sub hn1]; rfl
      have hsq2 : a.length * (a.length - 1) ≤ 12 := by
        have : a.length * (a.length - 1) ≤ 4 * 3 := Nat.mul_le_mul hn (by omega)
        omega
      refine ar rfl (by rw [hsq]; exact ⟨by omega, by omega⟩) ?_
      rw [hsq]
      refine quo_rule (by omega) (by decide) ⟨by omega, by omega⟩ ?_
      generalize hT : a.length * (a.length - 1) = T at *
      have hfar : far ((T : Int) / 2) = T / 2 := by unfold far; omega
      have hsh := rShlZ y1 Vv ((T : Int) / 2) 17 hvz (by decide)
      rw [hfar] at hsh
      have hmz : sz (Vv * 2 ^ (T / 2)) 593 := (hvz.mul (show sz (2 ^ (T / 2)) 1 by
        have h6 : T / 2 ≤ 6 := by omega
        have : ((2 : Int) ^ (T / 2)).natAbs < 18446744073709551616 := by
          rw [Int.natAbs_pow]
          exact Nat.lt_of_le_of_lt (Nat.pow_le_pow_right (by decide) h6) (by decide)
        exact sz_num _ this)).mono (by decide)
      refine call_fn (hsh) (Seals.refl _ _) mS ?_
      rintro y2 _ _ ⟨rfl, rfl⟩
      refine alloc_rule (d := I false []) fun mb hmb => ?_
      refine store_box (d := zd (Vv * 2 ^ (T / 2))) 0 rfl hmb rfl (by kernel_rfl) ?_ ?_; exact Reads.fact mM
      refine cmp_true rfl rfl ?_
      refine load_box (d := zd (iprod xa a.length)) 3 rfl hnb rfl (load_I _ _) fun y3 => ?_
      refine load_box (d := zd Vv) 4 rfl hvb rfl (load_I _ _) fun y4 => ?_
      refine call_fn (rCmpZ y3 y4 _ _ 593 (pa _ (Nat.le_refl _)) (hvz.mono (by decide)) (by decide)) (Seals.refl _ _) mS ?_
      rintro _ _ _ ⟨rfl, rfl, rfl⟩
      refine cmp_true rfl (sgn_nn (by omega)) ?_
      refine load_box (d := zd (iprod xc a.length)) 2 rfl hlb rfl (load_I _ _) fun y5 => ?_
      refine load_box (d := zd (Vv * 2 ^ (T / 2))) 0 rfl hmb rfl (load_I _ _) fun y6 => ?_
      refine call_fn (rCmpZ y5 y6 _ _ 593 (pb _ (Nat.le_refl _)) hmz (by decide)) (Seals.refl _ _) mS ?_
      rintro _ _ _ ⟨rfl, rfl, rfl⟩
      refine cmp_true rfl (sgn_le (by omega)) ?_
      refine load_box (d := zd (iprod (fun _ => xc 0) a.length)) 1 rfl hfb rfl (load_I _ _) fun y7 => ?_
      refine load_box (d := zd (Vv * 2 ^ (T / 2))) 0 rfl hmb rfl (load_I _ _) fun y8 => ?_
      refine call_fn (rCmpZ y7 y8 _ _ 593 (pc _ (Nat.le_refl _)) hmz (by decide)) (Seals.refl _ _) mS ?_
      rintro _ _ _ ⟨rfl, rfl, rfl⟩
      refine cmp_true rfl (sgn_le (by omega)) ?_
      exact fin ⟨rfl, rfl, rfl⟩ (by repeat (first | exact Seals.nil _ _ | refine Seals.trans (Seals.drop 0 _ _) ?_))
end Go.Proofs.Ytabdfhdddmbmlaa

namespace Go.Proofs.Ytabdfhdddmbmlaa
open Go.ChangeShapes Go.WideShapes Go.ChangeAt Go.RowKit
open Go.Joins (open_agg2)
set_option maxRecDepth 100000 in
theorem latticeVolumes_lifted (os : Os) (started : os.Started) (H : Type) (enc : TypeId × Value → H) :
    ReturnsInHanded {} Try.checked os 7 .any (Rows.latticeVolumesSpec.pre6 enc Try.prog Try.f7 Rows.latticeVolumesRow.domain false) (Rows.latticeVolumesSpec.post enc Try.prog Try.f7 false true false false) := by
  refine returnsInHanded_of_change (C := Try.checked) own0 started (by kernel_rfl) Try.func7
    (ChangeSpec.witness6 (enc := enc) (C := Try.checked) false ⟨#[], #[.slice none 0 0], []⟩ 8 (by kernel_rfl) (by kernel_rfl) (by kernel_rfl) (by kernel_rfl)) ?_
  intro Wd base args ds gs before hval0 hW hcnd _
  have hval : ∀ (j : Nat) t v, Try.f7.params[j]? = some t → args[j]? = some v → Value.okWide Try.prog Wd .any base t v := hval0
  have hW' := hW
  obtain ⟨p, q, hA0, hV, rfl, hfz, hnd⟩ := hW
  have hA : DataW.TrodAll enc Try.prog Wd 0 (fun _ => true) true Try.f7.params.toList args.toList ds p := hA0
  rw [Try.params7] at hA hval
  obtain ⟨v0, vs0, d0, ds0, p0, q0, hargs, rfl, rfl, h0, r0⟩ := trodAll_cons hA
  obtain ⟨rfl, rfl, rfl⟩ := trodAll_nil r0
  obtain rfl : args = #[v0] := by cases args; simp_all
  obtain ⟨rfl, rfl⟩ := trodVars_none hV
  obtain ⟨a0, n0, c0, rfl⟩ := okWide_slice Try.underlying22 (hval 0 22 v0 rfl rfl)
  have k0 := h0
  have lt0 : ∀ x ∈ p0, x.block < Wd.heap.size := by obtain ⟨m, hm⟩ := k0; exact DataW.trod_lt m _ _ _ hm
  obtain ⟨m0, lm0, rd0⟩ : ∃ m, limM m ∧ Rd (fun b => b < Wd.heap.size) Wd (.slice a0 n0 c0) (W m) := by
    obtain ⟨fuel, hf⟩ := h0
    obtain ⟨m, e1, e2⟩ := rd_rows hf
    exact ⟨m, e1, rd_val rfl e2⟩
  clear hA0 hval0
  refine (calls_of_meets (w := Wd) (lvolumes_meets (.slice a0 n0 c0) m0 lm0) ?_).mono fun e W2 ⟨he, bel⟩ => ?_
  · intro F hF
    simp only [List.mem_cons, List.not_mem_nil, or_false] at hF
    subst hF; exact rd0
  subst he
  exact ⟨_, rfl, _, _, _, [], _, [], hW', trodAll_mk1 (shut_bool Try.underlying4 _), (trodAll_cons_mk (Below.trod laid0 (by kernel_rfl) (of_decide_eq_true (by kernel_rfl)) k0 bel lt0) trodAll_mk0), rfl, bel.frame _, fun h => by cases h⟩
theorem latticeVolumes_holds : Rows.LatticeVolumesSaid :=
  OpenClaim.holds_of_wide 7 Try.f7 rfl rfl rfl rfl rfl rfl rfl ⟨rfl, rfl, rfl, rfl, rfl⟩ rfl rfl rfl rfl rfl (by kernel_rfl) Try.func7 (by kernel_rfl)
    (of_decide_eq_true (by kernel_rfl)) (by unfold Func.isWrapper; first | (rw [if_pos (by decide +kernel)]; kernel_rfl) | (rw [if_neg (by decide +kernel)]; exact ⟨rfl, rfl⟩))
    (fun os started H enc _ => latticeVolumes_lifted os started H enc)
#print axioms latticeVolumes_holds
end Go.Proofs.Ytabdfhdddmbmlaa
