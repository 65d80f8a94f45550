/- The law LatticeShort is true of each input, and changes none. No condition. -/
import Derived.Test.YtabdfhdddmbmlaaM5
import Derived.Test.YtabdfhdddmbmlaaRows
import Derived.OpenShut
import Derived.Below
import Derived.Lib.SmallJoins
set_option linter.unusedVariables false
set_option linter.unusedSimpArgs false

namespace Go.Proofs.Ytabdfhdddmbmlaa
open Go.RowKit
theorem rtimes_eq {Sl P s c Sa y a : Nat} (h : Sl + P * c = Sa * y) (hs : s = c + a * y) : Sl + P * (s % 4294967296) + P * 4294967296 * (s / 4294967296) = (Sa + P * a) * y := by
  have h1 : P * (s % 4294967296) + P * 4294967296 * (s / 4294967296) = P * c + P * (a * y) := by
    rw [Nat.mul_assoc, ← Nat.mul_add, Nat.mod_add_div, hs, Nat.mul_add]
  rw [Nat.add_mul, Nat.mul_assoc P a y]
  omega
theorem rtimes_meets (va : Value) (a : List Nat) (y : Nat) (ha : Dig a) (hy : y < 4294967296) (la : a.length ≤ 2199023255552) :
    Meets Try.prog 79 [va, .int .u64 (y : Nat)] [(va, U a)] (fun r os fs => os = [] ∧ fs = [(r, U (digs (dv a * y)))]) := by
  refine meets_of_vc Try.func79 (by kernel_rfl) rfl (by kernel_rfl) (Nat.le_of_ble_eq_true rfl) ?_
  refine loop_rule (X := Nat × List Nat × Nat × Value) (fun x => ([(0, va), (1, .int .u64 (y : Nat)), (5, x.2.2.2), (6, .int .u64 (x.2.2.1 : Nat)), (7, .int .i64 (x.1 : Nat))], [ownU x.2.2.2 x.2.1], [(va, U a)]))
    (fun x => x.1 ≤ a.length + 1 ∧ (a.length < x.1 → x.2.2.1 = 0) ∧ x.2.1.length = x.1 ∧ Dig x.2.1 ∧ x.2.2.1 < 4294967296 ∧ isSl x.2.2.2 ∧
      dv x.2.1 + 4294967296 ^ x.1 * x.2.2.1 = dv (a.take x.1) * y) (fun x => (a.length - x.1) * 4294967296 + x.2.2.1) rfl ?_ ?_
  · exact again (0, [], 0, .slice none 0 0) ⟨by simp, fun _ => rfl, rfl, Dig.nil, by simp, isSl_nil, by simp [dv]⟩ trivial mF ((Seals.nil_U _ _).trans (Seals.sub mS))
  · rintro ⟨i, l, c, vo⟩ ⟨h1, hz, h2, h3, h4, h0, h5⟩
    simp only at h0 h1 hz h2 h3 h4 h5 ⊢
    have hx := ha.get i
    by_cases hia : i < a.length
    · have hp : a.getD i 0 * y ≤ 4294967295 * 4294967295 := Nat.mul_le_mul (by omega) (by omega)
      have hm : (a.length - i) * 4294967296 = (a.length - (i + 1)) * 4294967296 + 4294967296 := by omega
      refine len_fact mM fun _ => ?_
      refine cmp_true rfl (by omega) ?_
      refine len_fact mM fun _ => ?_
      refine cmp_true rfl (by omega) ?_
      refine index_fact mM i rfl hia fun p => ?_
      refine load_one mM ?_
      refine ar_wrap rfl ((a.getD i 0 * y : Nat) : Int) (by rw [← Int.natCast_mul]; exact wrap_in ⟨Int.natCast_nonneg _, by omega⟩) ?_
      have hs : c + a.getD i 0 * y = c + a.getD i 0 * y := rfl
      generalize hq : a.getD i 0 * y = q at *
      refine ar_wrap rfl ((c + q : Nat) : Int) (by rw [← Int.natCast_add]; exact wrap_in ⟨Int.natCast_nonneg _, by omega⟩) ?_
      generalize hse : c + q = s at *
      refine rem_rule (by omega) (by omega) ?_
      refine lit_U ((s) % 4294967296) (by omega) fun w => ?_
      refine append_U 0 rfl h0 (Knw.fact mM) (by simp; omega) (by simp; omega) fun v2 hv2 => ?_
      refine quo_rule (by omega) (by omega) mI ?_
      refine ar rfl mI ?_
      refine again (i + 1, l ++ [(s) % 4294967296], (s) / 4294967296, v2) ⟨by simp only; omega, fun h => by simp only at h ⊢; omega, by simp [h2], h3.append (Dig.cons (by omega) Dig.nil), by simp only; omega, hv2, ?_⟩ (by simp only; omega) mF (Seals.sub mS)
      simp only
      rw [dv_append, h2, dv_take_succ, Nat.pow_succ]
      simp only [dv, Nat.mul_zero, Nat.add_zero]
      exact rtimes_eq h5 (by rw [hq, hse])
    · have ha0 := getD_of_le (l := a) (i := i) (by omega)
      by_cases hc : 0 < c
      · (repeat (first | (refine len_fact mM fun _ => ?_) | (refine cmp_true rfl (by omega) ?_) | (refine cmp_false rfl (by omega) ?_) | (refine index_fact mM _ rfl (by omega) fun _ => ?_) | (refine load_one mM ?_) | (refine ar rfl mI ?_)))
        refine rem_rule (by omega) (by omega) ?_
        refine lit_U ((c) % 4294967296) (by omega) fun w => ?_
        refine append_U 0 rfl h0 (Knw.fact mM) (by simp; omega) (by simp; omega) fun v2 hv2 => ?_
        refine quo_rule (by omega) (by omega) mI ?_
        refine ar rfl mI ?_
        refine again (i + 1, l ++ [(c) % 4294967296], (c) / 4294967296, v2) ⟨by simp only; omega, fun h => by simp only at h ⊢; omega, by simp [h2], h3.append (Dig.cons (by omega) Dig.nil), by simp only; omega, hv2, ?_⟩ (by simp only; omega) mF (Seals.sub mS)
        simp only
        rw [dv_append, h2, dv_take_succ, Nat.pow_succ]
        simp only [dv, Nat.mul_zero, Nat.add_zero]
        exact rtimes_eq h5 (by rw [ha0, Nat.zero_mul, Nat.add_zero])
      · (repeat (first | (refine len_fact mM fun _ => ?_) | (refine cmp_true rfl (by omega) ?_) | (refine cmp_false rfl (by omega) ?_) | (refine index_fact mM _ rfl (by omega) fun _ => ?_) | (refine load_one mM ?_) | (refine ar rfl mI ?_)))
        refine call_fn (rTrim_meets vo l) (Seals.U 0 rfl h0) mS ?_
        rintro r _ _ ⟨rfl, rfl⟩
        refine fin ⟨rfl, rfl⟩ (Seals.cons ((Knw.fact mM).cast ?_) (Seals.nil _ _))
        rw [List.take_of_length_le (by omega), show c = 0 by omega] at h5
        rw [trimD_eq h3]
        congr 2
end Go.Proofs.Ytabdfhdddmbmlaa

namespace Go.Proofs.Ytabdfhdddmbmlaa
open Go.RowKit
end Go.Proofs.Ytabdfhdddmbmlaa

namespace Go.Proofs.Ytabdfhdddmbmlaa
open Go.RowKit
end Go.Proofs.Ytabdfhdddmbmlaa

namespace Go.Proofs.Ytabdfhdddmbmlaa
open Go.RowKit
section
variable {a : List Row} {k : Nat}
theorem Rdd.rvm (_ : Rdd a k) : Go.Proofs.Ytabdfhdddmbmlaa.rvm ((M1 a).map (·.map cn)) = mx (M1 a) := rvm_cn _
/-- Each row that was handed in is a sum of the reduced ones. -/
theorem Rdd.back (h : Rdd a k) : ∃ w : Mx, ∀ i c, i < a.length → c < (a.getD 0 []).length → comb a.length (w i) (mx (M1 a)) c = Go.Proofs.Ytabdfhdddmbmlaa.rvm a i c := by
  obtain ⟨w, hw⟩ := back_rows h.lb.ua h.lb.un
  refine ⟨w, fun i c hi hc => ?_⟩
  rw [← hw i c hi hc]
  exact isum_congr fun s hs => by rw [h.same s c hs hc]
theorem Rdd.uz (h : Rdd a k) (hf : Fits k a) (ln : a.length ≤ 1024) (lc : (a.getD 0 []).length ≤ 1048576) (hI : Ind (a.getD 0 []).length a.length (Go.Proofs.Ytabdfhdddmbmlaa.rvm a)) :
    Fits (lK k a.length + k + 1 + ((k + k + 2) * a.length + 1) + 1) ((M2 a).map (·.map cn)) :=
  (matL_szM fun i j hi hj => h.lb.uz (by omega) (by omega) (fun i c _ _ => rv_sz (hf.get i) c) (vol_of_ind hI) hi hj).fits
theorem Rdd.det (h : Rdd a k) : det a.length (mx (M2 a)) = 1 ∨ det a.length (mx (M2 a)) = -1 := by
  rw [det_congr fun i j hi hj => M2_at a hi hj]; exact h.lb.un
end
end Go.Proofs.Ytabdfhdddmbmlaa

namespace Go.Proofs.Ytabdfhdddmbmlaa
open Go.RowKit
theorem rshift_meets (n : Int) : Meets Try.prog 78 [.int .i64 n] [] (fun r os fs => os = [] ∧ fs = [] ∧ r = .int .i64 (far n : Nat)) := by
  refine meets_of_vc Try.func78 (by kernel_rfl) rfl (by kernel_rfl) (Nat.le_of_ble_eq_true rfl) ?_
  refine min2_rule ?_
  refine max2_rule ?_
  have hK : max 0 (min n 8192) = (far n : Int) := by unfold far; omega
  rw [hK]
  exact fin ⟨rfl, rfl, rfl⟩ (Seals.nil _ _)
theorem rShl01_meets (v : Value) (a : List Nat) (n : Int) (ha : Lim a) (la : a.length ≤ 274877906944) :
    Meets Try.prog 52 [v, .int .i64 n] [(v, U a)] (fun r os fs => os = [] ∧ fs = [(r, U (lims (nv a * 2 ^ far n)))]) := by
  have hK2 : far n ≤ 8192 := by unfold far; omega
  have hsh := rshift_meets n
  generalize far n = K at *
  have hq : K / 32 ≤ 256 := by omega
  have hs : K % 32 < 32 := Nat.mod_lt _ (by decide)
  have hpow : 2 ^ K = 4294967296 ^ (K / 32) * 2 ^ (K % 32) := by
    rw [show (4294967296 : Nat) = 2 ^ 32 from rfl, ← Nat.pow_mul, ← Nat.pow_add, Nat.div_add_mod K 32]
  have h2s : 2 ^ (K % 32) < 4294967296 := Nat.lt_of_lt_of_le (Nat.pow_lt_pow_right (by decide) hs) (by decide)
  have h1 := digs_len ha
  have h3 : (digs (nv a * 2 ^ (K % 32))).length ≤ 2 * a.length + 1 := by
    refine digs_length_le ?_
    rw [Nat.pow_succ, pow_two_mul]
    exact Nat.mul_lt_mul'' (nv_lt ha) h2s
  have hval : dv (List.replicate (K / 32) 0 ++ digs (nv a * 2 ^ (K % 32))) = nv a * 2 ^ K := by
    rw [dv_append, dv_replicate, dv_digs, List.length_replicate, hpow, Nat.zero_add]
    rw [Nat.mul_left_comm]
  refine meets_of_vc Try.func52 (by kernel_rfl) rfl (by kernel_rfl) (Nat.le_of_ble_eq_true rfl) ?_
  refine call_fn hsh (Seals.refl _ _) mS ?_
  rintro _ _ _ ⟨rfl, rfl, rfl⟩
  refine call_fn (digits_meets v a ha (by omega)) (Seals.refl _ _) mS ?_
  rintro x _ _ ⟨rfl, rfl⟩
  refine rem_rule (by omega) (by decide) ?_
  refine conv_int ⟨_, Try.underlying3⟩ Try.underlying92 ((K : Int) % 32) (wrap_in ⟨by omega, by omega⟩) ?_
  refine shl_rule 1 (K % 32) rfl (by omega) (by omega) ?_
  have e1 : ((1 * 2 ^ (K % 32) % 18446744073709551616 : Nat) : Int) = ((2 ^ (K % 32) : Nat) : Int) := by
    rw [Nat.one_mul, Nat.mod_eq_of_lt (by omega)]
  rw [e1]
  refine call_fn (rtimes_meets x (digs (nv a)) (2 ^ (K % 32)) (Dig_digs _) h2s (by omega)) (Seals.refl _ _) mS ?_
  rintro y _ _ ⟨rfl, rfl⟩
  rw [dv_digs]
  refine quo_rule (by omega) (by decide) ⟨by omega, by omega⟩ ?_
  refine make_U (K / 32) (by omega) (by omega) (by omega) (by omega) fun z hz => ?_
  refine append_U 0 rfl hz (Knw.fact mM) (by rw [List.length_replicate]; omega) (by rw [List.length_replicate]; omega) fun z2 hz2 => ?_
  refine call_fn (limbs_meets z2 (List.replicate (K / 32) 0 ++ digs (nv a * 2 ^ (K % 32))) (Dig.append (Dig.replicate _) (Dig_digs _)) (by rw [List.length_append, List.length_replicate]; omega)) (Seals.U 0 rfl hz2) mS ?_
  rintro r _ _ ⟨rfl, rfl⟩
  rw [hval]
  exact fin ⟨rfl, rfl⟩ (Seals.sub mS)
theorem rShlJ (v : Value) (x : Bool × List Nat) (n : Int) (hx : Lim x.2) (lx : x.2.length ≤ 274877906944) :
    Meets Try.prog 22 [v, .int .i64 n] [(v, J x)] (fun r os fs => os = [] ∧ fs = [(r, zd (jv x * 2 ^ far n))]) := by
  have e : iv x.1 (lims (nv x.2 * 2 ^ far n)) = jv x * 2 ^ far n := by
    unfold jv iv
    rw [nv_lims]
    cases x.1 <;> simp [Int.neg_mul]
  have hl : (lims (nv x.2 * 2 ^ far n)).length ≤ x.2.length + 129 := by
    refine lims_length_le ?_
    rw [Nat.pow_add]
    have hK2 : far n ≤ 8192 := by unfold far; omega
    have key : ∀ K m : Nat, K < 64 * m → 2 ^ K < 18446744073709551616 ^ m := fun K m h => by
      rw [show (18446744073709551616 : Nat) = 2 ^ 64 from rfl, ← Nat.pow_mul]
      exact Nat.pow_lt_pow_right (by decide) h
    exact Nat.mul_lt_mul'' (nv_lt hx) (key _ _ (by omega))
  refine meets_of_vc Try.func22 (by kernel_rfl) rfl (by kernel_rfl) (Nat.le_of_ble_eq_true rfl) ?_
  refine box_rule (Reads.fact (d := I x.1 x.2) mM) fun p hp => ?_
  refine alloc_rule (d := I false []) fun o ho => ?_
  refine draw_rule [0, 1, 2, 3, 4, 5, 6, 7] [0, 1, 2, 3, 4, 5, 6, 7] (by kernel_rfl) (by kernel_rfl) ?_
  refine field_box 1 rfl hp ?_
  refine load_box_field_one 1 rfl (Part.left (Part.refl _)) ?_
  refine field_box 1 rfl hp ?_
  refine load_box_field 1 rfl (Part.right (Part.refl _)) (load_L _) fun u1 => ?_
  refine call_fn (rShl01_meets u1 x.2 n hx lx) (Seals.refl _ _) mS ?_
  rintro u2 _ _ ⟨rfl, rfl⟩
  refine call_fn (rMake_meets u2 x.1 (lims (nv x.2 * 2 ^ far n)) (Lim_lims _) (by omega)) (Seals.refl _ _) mS ?_
  rintro u3 _ _ ⟨rfl, rfl⟩
  rw [e]
  refine store_box (d := zd (jv x * 2 ^ far n)) 0 rfl ho rfl (by kernel_rfl) ?_ ?_; exact Reads.fact mM
  refine load_box (d := zd (jv x * 2 ^ far n)) 0 rfl ho rfl (load_I _ _) fun r => ?_
  exact fin ⟨rfl, rfl⟩ (Seals.trans (Seals.drop 0 _ _) (Seals.trans (Seals.drop 0 _ _) (Seals.sub (fs' := [(r, zd (jv x * 2 ^ far n))]) mS)))
theorem rShlZ (v : Value) (x : Int) (n : Int) (a : Nat) (hx : sz x a) (ha : a ≤ 274877906944) :
    Meets Try.prog 22 [v, .int .i64 n] [(v, zd x)] (fun r os fs => os = [] ∧ fs = [(r, zd (x * 2 ^ far n))]) := by
  have h := rShlJ v (cn x) n (Lim_lims _) (Nat.le_trans hx.len ha)
  rw [jv_cn] at h
  exact h
theorem rCmpZ (v w : Value) (x y : Int) (a : Nat) (hx : sz x a) (hy : sz y a) (ha : a ≤ 137438953471) :
    Meets Try.prog 27 [v, w] [(v, zd x), (w, zd y)] (fun r os fs => os = [] ∧ fs = [] ∧ r = .int .i64 (x - y).sign) := by
  have h := fun y1 y2 => rZSub_meets y1 y2 (decide (x < 0)) (decide (y < 0)) (lims x.natAbs) (lims y.natAbs) (Lim_lims _) (Lim_lims _) (Nat.le_trans hx.len (by omega)) (Nat.le_trans hy.len (by omega))
  simp only [iv_zd] at h
  have hd : sz (x - y) (a + 1) := sz_sub hx hy
  have hs := fun z => rSign_meets z (decide (x - y < 0)) (lims (x - y).natAbs) (Lim_lims _) (Nat.le_trans hd.len (by omega))
  simp only [iv_zd] at hs
  refine meets_of_vc Try.func27 (by kernel_rfl) rfl (by kernel_rfl) (Nat.le_of_ble_eq_true rfl) ?_
  refine box_rule (Reads.fact (d := zd x) mM) fun p hp => ?_
  refine box_rule (Reads.fact (d := zd y) mM) fun q hq => ?_
  refine load_box (d := zd x) 1 rfl hp rfl (load_I _ _) fun y1 => ?_
  refine load_box (d := zd y) 0 rfl hq rfl (load_I _ _) fun y2 => ?_
  refine call_fn (h y1 y2) (Seals.refl _ _) mS ?_
  rintro z _ _ ⟨rfl, rfl⟩
  refine call_fn (hs z) (Seals.refl _ _) mS ?_
  rintro _ _ _ ⟨rfl, rfl, rfl⟩
  exact fin ⟨rfl, rfl, rfl⟩ (Seals.trans (Seals.drop 0 _ _) (Seals.trans (Seals.drop 0 _ _) (Seals.nil _ _)))
/-- The sum of the rows, each times its number. -/
def lsum (m : List Row) (c : Row) : List Int := (List.range (m.getD 0 []).length).map fun t => comb m.length (rv c) (rvm m) t
theorem comb_sz {m : List Row} {c : Row} {k i : Nat} (hf : Fits k m) (hc : Fit k c) (hi : i < 18446744073709551616) (t : Nat) : sz (comb i (rv c) (rvm m) t) (k + k + 1) :=
  isum_sz (fun s _ => (rv_sz hc s).mul (rv_sz (hf.get s) t)) hi
theorem rSum_meets (v w : Value) (m : List Row) (c : Row) (k : Nat) (hf : Fits k m) (hc : Fit k c) (hr : right m) (hl : m.length ≤ c.length) (hk : k ≤ 1048576) (lm : m.length ≤ 1048576) (lc : (m.getD 0 []).length ≤ 1048576) :
    Meets Try.prog 18 [v, w] [(v, W m), (w, V c)] (fun r os fs => os = [] ∧ fs = [(r, vd (lsum m c))]) := by
  have hlen : ∀ i, i < m.length → (m.getD i []).length = (m.getD 0 []).length := fun i hi => (hr.get hi).2
  refine meets_of_vc Try.func18 (by kernel_rfl) rfl (by kernel_rfl) (Nat.le_of_ble_eq_true rfl) ?_
  refine empty_L J z0 (by decide) fun o ho => ?_
  refine loop_rule (X := Nat × Value) (fun x => ([(0, v), (1, w), (5, x.2), (6, .int .i64 (x.1 : Nat))], [ownL 2 J z0 x.2 ((List.range x.1).map fun t => cn (comb m.length (rv c) (rvm m) t))], [(v, W m), (w, V c)]))
    (fun x => x.1 ≤ (m.getD 0 []).length ∧ isSl x.2) (fun x => (m.getD 0 []).length - x.1) rfl ?_ ?_
  · exact again (0, o) ⟨Nat.zero_le _, ho⟩ trivial mF (Seals.sub mS)
  · rintro ⟨t, o⟩ ⟨ht, ho⟩
    simp only at ht ho ⊢
    refine index_fact (v := v) mM 0 rfl hr.1 fun a1 => ?_
    refine load_fact (d := V (m.getD 0 [])) mM (load_V _) fun a2 => ?_
    refine len_fact (v := a2) mM fun _ => ?_
    refine cmp_split _ rfl (fun hlt => ?_) (fun hlt => ?_)
    · have htC : t < (m.getD 0 []).length := by omega
      refine build0 (da := .one (.bool false)) (db := U (lims 0)) (fun S w => ⟨[.bool false], [.slice none 0 0], rfl, rd_false S w, by rw [lims_zero]; exact rd_nil S w 1 _⟩) fun zz => ?_
      refine alloc_rule (d := I false []) fun s hs => ?_
      refine store_box (d := zd 0) 0 rfl hs rfl (by kernel_rfl) ?_ ?_; exact Reads.fact (d := zd 0) mM
      refine loop_rule (X := Nat) (fun i => ([(0, v), (1, w), (5, o), (6, .int .i64 (t : Nat)), (7, s), (8, .int .i64 (i : Nat))], [own1 s 2 1 (fun _ => zd (comb i (rv c) (rvm m) t)), ownL 2 J z0 o ((List.range t).map fun t => cn (comb m.length (rv c) (rvm m) t))], [(v, W m), (w, V c)]))
        (fun i => i ≤ m.length) (fun i => m.length - i) rfl ?_ ?_
      · exact again 0 (Nat.zero_le _) trivial mF (Seals.trans (Seals.box0 rfl) (Seals.sub (fs' := [(v, W m), (w, V c)]) mS))
      · rintro i hi
        refine len_fact (v := v) mM fun _ => ?_
        refine cmp_split _ rfl (fun hlt2 => ?_) (fun hlt2 => ?_)
        · have hin : i < m.length := by omega
          have f1 := hc.get i
          have f2 := (hf.get i).get t
          have g1 : sz (comb i (rv c) (rvm m) t) (k + k + 1) := comb_sz hf hc (by omega) t
          have g2 : sz (jv (c.getD i z0) * jv ((m.getD i []).getD t z0)) (k + k + 1) := ((sz_jv f1.1 f1.2).mul (sz_jv f2.1 f2.2)).mono (by omega)
          refine draw_rule [0, 1, 2, 3, 4, 5, 6, 7, 8, 9, 10, 11, 12, 13, 14] [0, 1, 2, 3, 4, 5, 6, 7, 8, 9, 10, 11, 12, 13, 14] (by kernel_rfl) (by kernel_rfl) ?_
          refine load_box (d := zd (comb i (rv c) (rvm m) t)) 0 rfl hs rfl (load_I _ _) fun y1 => ?_
          refine index_fact (v := w) mM i rfl (by omega) fun b1 => ?_
          refine load_fact (d := J (c.getD i z0)) mM (load_J _) fun y2 => ?_
          refine index_fact (v := v) mM i rfl hin fun b2 => ?_
          refine load_fact (d := V (m.getD i [])) mM (load_V _) fun b3 => ?_
          refine index_fact (v := b3) mM t rfl (by rw [hlen i hin]; omega) fun b4 => ?_
          refine load_fact (d := J ((m.getD i []).getD t z0)) mM (load_J _) fun y3 => ?_
          refine call_fn (rMulJ y2 y3 (c.getD i z0) ((m.getD i []).getD t z0) f1.1 (by omega) f2.1 (by omega)) (Seals.refl _ _) mS ?_
          rintro y4 _ _ ⟨rfl, rfl⟩
          refine call_fn (rAddZ y1 y4 _ _ (k + k + 1) g1 g2 (by omega)) (Seals.refl _ _) mS ?_
          rintro y5 _ _ ⟨rfl, rfl⟩
          refine store_box (d := zd (comb (i + 1) (rv c) (rvm m) t)) 0 rfl hs rfl (by kernel_rfl) ?_ ?_; exact Reads.fact mM
          refine ar rfl mI ?_
          exact again (i + 1) (by omega) (by simp only; omega) mF (Seals.trans (Seals.box0 rfl) (Seals.sub (fs' := [(v, W m), (w, V c)]) mS))
        · have hin : i = m.length := by omega
          have g1 : sz (comb m.length (rv c) (rvm m) t) (k + k + 1) := comb_sz hf hc (by omega) t
          rw [hin]
          refine load_box (d := zd (comb m.length (rv c) (rvm m) t)) 0 rfl hs rfl (load_I _ _) fun y1 => ?_
          refine call_fn (rNormZ y1 _ (k + k + 1) g1 (by omega)) (Seals.refl _ _) mS ?_
          rintro y2 _ _ ⟨rfl, rfl⟩
          refine lit_L (size := 2) J z0 (cn (comb m.length (rv c) (rvm m) t)) (by decide) (Reads.fact (d := zd (comb m.length (rv c) (rvm m) t)) mM) rfl fun l1 => ?_
          refine append_L 1 rfl ho (Knw.fact mM) (by simp; omega) (by simp; omega) fun o2 ho2 => ?_
          refine ar rfl mI ?_
          refine again (t + 1, o2) ⟨by simp only; omega, ho2⟩ (by simp only; omega) mF ?_
          simp only [range_snoc_map]
          exact Seals.trans (Seals.drop 0 _ _) (Seals.sub (fs' := [(v, W m), (w, V c)]) mS)
    · have htC : t = (m.getD 0 []).length := by omega
      subst htC
      refine fin ⟨rfl, rfl⟩ (Seals.trans (Seals.L 0 rfl ho) (Seals.cons ((Knw.fact mM).cast ?_) (Seals.nil _ _)))
      unfold vd lsum V
      rw [List.map_map]; rfl
end Go.Proofs.Ytabdfhdddmbmlaa

namespace Go.Proofs.Ytabdfhdddmbmlaa
open Go.RowKit
theorem fits4_meets (v : Value) (p : Row) (n k : Nat) :
    Meets Try.prog 16 [v, .int .i64 (n : Int), .int .i64 (k : Int)] [(v, V p)] (fun r os fs => os = [] ∧ fs = [] ∧ r = .bool (decide (smallR n k p))) := rFits_meets v p n k
theorem lsum_get {m : List Row} {c : Row} {t : Nat} (ht : t < (m.getD 0 []).length) : (lsum m c).getD t 0 = comb m.length (rv c) (rvm m) t := by
  unfold lsum
  rw [List.getD_eq_getElem?_getD, List.getElem?_map, List.getElem?_range ht]; rfl
theorem ldt_self {x : Row} {C : Nat} (h : x.length = C) : ldt x x = ip C (rv x) (rv x) := by unfold ldt; rw [if_pos rfl, h]
/-- The reduced rows as raw rows. -/
noncomputable def RR (a : List Row) : List Row := (M1 a).map (·.map cn)
section
variable {a : List Row} {k : Nat}
theorem Rdd.rlen (h : Rdd a k) : (RR a).length = a.length := by unfold RR; rw [List.length_map, h.len]
theorem Rdd.rrow (_ : Rdd a k) {i : Nat} (hi : i < a.length) : ((RR a).getD i []).length = (a.getD 0 []).length := by
  unfold RR M1; rw [get_cn, List.length_map, matL_row _ hi]; simp
theorem Rdd.rrv (_ : Rdd a k) (i : Nat) : rv ((RR a).getD i []) = mx (M1 a) i := congrFun (rvm_cn (M1 a)) i
theorem Rdd.rfits (h : Rdd a k) : Fits (lK k a.length) (RR a) := h.fits
/-- A sum of the rows is a sum of the reduced ones. -/
theorem Rdd.sum (h : Rdd a k) (c : Nat → Int) : ∃ d : Nat → Int, ∀ t, t < (a.getD 0 []).length → comb a.length c (Go.Proofs.Ytabdfhdddmbmlaa.rvm a) t = comb a.length d (mx (M1 a)) t := by
  obtain ⟨w, hw⟩ := h.back
  exact ⟨_, fun t ht => comb_comb c w hw ht⟩
theorem Rdd.short (h : Rdd a k) (hr : Go.Proofs.Ytabdfhdddmbmlaa.right a) (c : Nat → Int) (hN : ip (a.getD 0 []).length (comb a.length c (Go.Proofs.Ytabdfhdddmbmlaa.rvm a)) (comb a.length c (Go.Proofs.Ytabdfhdddmbmlaa.rvm a)) ≠ 0) :
    ip (a.getD 0 []).length (mx (M1 a) 0) (mx (M1 a) 0) ≤ 2 ^ (a.length - 1) * ip (a.getD 0 []).length (comb a.length c (Go.Proofs.Ytabdfhdddmbmlaa.rvm a)) (comb a.length c (Go.Proofs.Ytabdfhdddmbmlaa.rvm a)) := by
  obtain ⟨d, hd⟩ := h.sum c
  have e : ip (a.getD 0 []).length (comb a.length c (Go.Proofs.Ytabdfhdddmbmlaa.rvm a)) (comb a.length c (Go.Proofs.Ytabdfhdddmbmlaa.rvm a)) = ip (a.getD 0 []).length (comb a.length d (mx (M1 a))) (comb a.length d (mx (M1 a))) := isum_congr fun t ht => by rw [hd t ht]
  rw [e] at hN ⊢
  have := hr.1
  exact short_first h.ind h.rdc hN
end
theorem lshort_meets (v w : Value) (a : List Row) (c : Row) (ha : limM a) (hc0 : limR c) :
    Meets Try.prog 6 [v, w] [(v, W a), (w, V c)] (fun r os fs => os = [] ∧ fs = [] ∧ r = .bool true) := by
  refine meets_of_vc Try.func6 (by kernel_rfl) rfl (by kernel_rfl) (Nat.le_of_ble_eq_true rfl) ?_
  refine call_fn shown4_meets (Seals.refl _ _) mS ?_
  rintro _ _ _ ⟨rfl, rfl, rfl⟩
  refine call_fn (little4_meets v a) (Seals.refl _ _) mS ?_
  rintro _ _ _ ⟨rfl, rfl, rfl⟩
  by_cases hs : small 4 5 1 a
  case neg =>
    rw [decide_eq_false hs]
    exact fin ⟨rfl, rfl, rfl⟩ (Seals.nil _ _)
  rw [decide_eq_true hs]
  have hf := hs.fits ha
  have hcc := hs.cols
  have hn := hs.1
  obtain ⟨z1, z2, z3, z4, z5⟩ := lZ_small hn
  refine len_fact (v := w) mM fun _ => ?_
  refine len_fact (v := v) mM fun _ => ?_
  refine cmp_split _ rfl (fun hne => ?_) (fun heq => ?_)
  · exact fin ⟨rfl, rfl, rfl⟩ (Seals.nil _ _)
  have hlc : c.length = a.length := by omega
  refine call_fn (fits4_meets w c 4 1) (Seals.refl _ _) mS ?_
  rintro _ _ _ ⟨rfl, rfl, rfl⟩
  by_cases hsc : smallR 4 1 c
  case neg =>
    rw [decide_eq_false hsc]
    exact fin ⟨rfl, rfl, rfl⟩ (Seals.nil _ _)
  rw [decide_eq_true hsc]
  have hfc : Fit 1 c := fun x hx => ⟨hc0 x hx, hsc.2 x hx⟩
  have h0 := lReduceT v a 1 hf (by decide) (by omega) (by omega) z1
  by_cases hI : right a ∧ Ind (a.getD 0 []).length a.length (rvm a)
  case neg =>
    obtain ⟨_, _, e3⟩ := lred_bad hI
    have : (lred a).2.2 ≠ 0 := by rw [e3]; split <;> decide
    refine call_fn h0 (Seals.refl _ _) mS ?_
    rintro _ _ _ ⟨rfl, r, u, rfl, rfl⟩
    refine cmp_true rfl this ?_
    exact fin ⟨rfl, rfl, rfl⟩ (Seals.nil _ _)
  obtain ⟨hr, hI⟩ := hI
  have hd := rdd hf hr (by omega) (by omega) hI
  rw [lred_ok hr hI] at h0
  simp only at h0
  have hX := hd.short hr (rv c)
  have hn1 := hr.1
  have r1 := hd.rlen
  have r2 := hd.rrow hn1
  have r3 := hd.rrv 0
  have r4 := hd.rfits
  have e0 : wd (M1 a) = W (RR a) := rfl
  rw [e0] at h0
  have hsl : ((lsum a c).map cn).length = (a.getD 0 []).length := by rw [List.length_map]; unfold lsum; simp
  have hsf : Fit 3 ((lsum a c).map cn) := Fit_cn fun x hx => by
    unfold lsum at hx
    obtain ⟨t, _, rfl⟩ := List.mem_map.1 hx
    exact comb_sz hf hfc (by omega) t
  have hrs : ldt ((lsum a c).map cn) ((lsum a c).map cn) = ip (a.getD 0 []).length (comb a.length (rv c) (rvm a)) (comb a.length (rv c) (rvm a)) := by
    rw [ldt_self hsl]
    refine isum_congr fun t ht => ?_
    have : rv ((lsum a c).map cn) t = comb a.length (rv c) (rvm a) t := by
      rw [rv_cn]; exact lsum_get ht
    rw [this]
  have hr0 : ldt ((RR a).getD 0 []) ((RR a).getD 0 []) = ip (a.getD 0 []).length (mx (M1 a) 0) (mx (M1 a) 0) := by
    rw [ldt_self r2, r3]
  rw [← hrs, ← hr0] at hX
  have hD1 := fun x => lDot_meets x x ((lsum a c).map cn) ((lsum a c).map cn) 3 hsf hsf (by decide) (by omega)
  have hD2 := fun x y => lDot_meets x y ((RR a).getD 0 []) ((RR a).getD 0 []) (lK 1 a.length) (r4.get 0) (r4.get 0) (by omega) (by omega)
  rw [if_pos rfl] at hD1 hD2
  have hNz : sz (ldt ((lsum a c).map cn) ((lsum a c).map cn)) 8 := by
    rw [ldt_self hsl]; exact (ip_sz (fun t _ => rv_sz hsf t) (fun t _ => rv_sz hsf t) (by omega)).mono (by decide)
  have hXz : sz (ldt ((RR a).getD 0 []) ((RR a).getD 0 [])) 148 := by
    rw [ldt_self r2]; exact (ip_sz (fun t _ => rv_sz (r4.get 0) t) (fun t _ => rv_sz (r4.get 0) t) (by omega)).mono (by omega)
  generalize hsN : ldt ((lsum a c).map cn) ((lsum a c).map cn) = N at *
  generalize ldt ((RR a).getD 0 []) ((RR a).getD 0 []) = X at *
  generalize hR : RR a = R at *
  have hsg := fun y => rSign_meets y (cn N).1 (cn N).2 (Lim_lims _) (Nat.le_trans hNz.len (by decide))
  have e1 : iv (cn N).1 (cn N).2 = N := jv_cn _
  rw [e1] at hsg
  refine call_fn h0 (Seals.refl _ _) mS ?_
  rintro _ _ _ ⟨rfl, r, u, rfl, rfl⟩
  refine cmp_false rfl (by decide) ?_
  refine len_fact (v := r) mM fun _ => ?_
  refine cmp_false rfl (by omega) ?_
  refine call_fn (rSum_meets v w a c 1 hf hfc hr (by omega) (by decide) (by omega) (by omega)) (Seals.refl _ _) mS ?_
  rintro s _ _ ⟨rfl, rfl⟩
  refine call_fn (hD1 s) (Seals.refl _ _) mS ?_
  rintro _ _ _ ⟨rfl, nq, rfl, rfl⟩
  refine alloc_rule (d := I false []) fun nb hnb => ?_
  refine store_box (d := zd N) 0 rfl hnb rfl (by kernel_rfl) ?_ ?_; exact Reads.fact mM
  refine draw_join (X := Value × Value) (fun z => ([(0, v), (5, .bool true), (10, nb), (12, z.1)], [own1 z.1 2 1 (fun _ => zd X), own1 nb 2 1 (fun _ => zd N)], [(v, W a)])) (fun z => isBox z.1) ?_ ?_
  ·
    refine draw_ord [0, 1, 2, 3, 4, 5, 6, 7, 8, 10, 11, 9, 12] (by kernel_rfl) ?_
    refine ord_split 6 10 (by kernel_rfl) (by kernel_rfl) (by kernel_rfl) ?_ ?_
    · refine ord_go [0, 1, 2, 3, 4, 5, 6, 7, 8, 9, 10, 11, 12] (by kernel_rfl) (by kernel_rfl) ?_
      refine index_fact (v := r) mM 0 rfl (by omega) fun i1 => ?_
      refine load_fact (d := V (R.getD 0 [])) mM (load_V _) fun x1 => ?_
      refine index_fact (v := r) mM 0 rfl (by omega) fun i2 => ?_
      refine load_fact (d := V (R.getD 0 [])) mM (load_V _) fun x2 => ?_
      refine call_fn (hD2 x1 x2) (Seals.refl _ _) mS ?_
      rintro _ _ _ ⟨rfl, xq, rfl, rfl⟩
      refine alloc_rule (d := I false []) fun xb hxb => ?_
      refine store_box (d := zd X) 0 rfl hxb rfl (by kernel_rfl) (Reads.fact mM) ?_
      exact again (xb, xb) hxb trivial mF (Seals.trans (Seals.box0 rfl) (Seals.trans (Seals.box1 rfl) (Seals.sub (fs' := [(v, W a)]) mS)))
    · refine ord_go [0, 1, 2, 3, 4, 5, 10, 6, 7, 8, 9, 11, 12] (by kernel_rfl) (by kernel_rfl) ?_
      refine index_fact (v := r) mM 0 rfl (by omega) fun i1 => ?_
      refine load_fact (d := V (R.getD 0 [])) mM (load_V _) fun x1 => ?_
      refine index_fact (v := r) mM 0 rfl (by omega) fun i2 => ?_
      refine load_fact (d := V (R.getD 0 [])) mM (load_V _) fun x2 => ?_
      refine alloc_rule (d := I false []) fun xb hxb => ?_
      refine call_fn (hD2 x1 x2) (Seals.refl _ _) mS ?_
      rintro _ _ _ ⟨rfl, xq, rfl, rfl⟩
      refine store_box (d := zd X) 0 rfl hxb rfl (by kernel_rfl) (Reads.fact mM) ?_
      exact again (xb, xb) hxb trivial mF (Seals.trans (Seals.box0 rfl) (Seals.trans (Seals.box1 rfl) (Seals.sub (fs' := [(v, W a)]) mS)))
  rintro ⟨xb, xb'⟩ hxb
  simp only at hxb ⊢
  refine draw_rule [0, 1, 2, 3, 4, 5, 6, 7, 8, 9, 10, 11, 12, 13, 14, 15, 16] [0, 1, 2, 3, 4, 5, 6, 7, 8, 9, 10, 11, 12, 13, 14, 15, 16] (by kernel_rfl) (by kernel_rfl) ?_
  refine load_box (d := zd N) 1 rfl hnb rfl (load_I _ _) fun y1 => ?_
  refine call_fn (hsg y1) (Seals.refl _ _) mS ?_
  rintro _ _ _ ⟨rfl, rfl, rfl⟩
  refine cmp_split _ rfl (fun hz => ?_) (fun hz => ?_)
  · exact fin ⟨rfl, rfl, rfl⟩ (Seals.trans (Seals.drop 0 _ _) (Seals.trans (Seals.drop 0 _ _) (Seals.nil _ _)))
  have hN0 : N ≠ 0 := fun e => hz (by rw [e]; rfl)
  have hle := hX hN0
  refine load_box (d := zd X) 0 rfl hxb rfl (load_I _ _) fun y2 => ?_
  refine load_box (d := zd N) 1 rfl hnb rfl (load_I _ _) fun y3 => ?_
  refine len_fact (v := v) mM fun _ => ?_
  refine ar rfl mI ?_
  have hfar : far ((a.length : Int) - 1) = a.length - 1 := by unfold far; omega
  have hsh := rShlZ y3 N ((a.length : Int) - 1) 8 hNz (by decide)
  rw [hfar] at hsh
  have hNz2 : sz (N * 2 ^ (a.length - 1)) 148 := (hNz.mul (show sz (2 ^ (a.length - 1)) 1 by
    have : a.length - 1 = 0 ∨ a.length - 1 = 1 ∨ a.length - 1 = 2 ∨ a.length - 1 = 3 := by omega
    rcases this with e | e | e | e <;> rw [e] <;> exact sz_num _ (by decide))).mono (by decide)
  refine call_fn (hsh) (Seals.refl _ _) mS ?_
  rintro y4 _ _ ⟨rfl, rfl⟩
  refine call_fn (rCmpZ y2 y4 X _ 148 hXz hNz2 (by decide)) (Seals.refl _ _) mS ?_
  rintro _ _ _ ⟨rfl, rfl, rfl⟩
  have hsle : (X - N * 2 ^ (a.length - 1)).sign ≤ 0 := by
    rw [Int.mul_comm] at hle
    rcases Int.lt_trichotomy (X - N * 2 ^ (a.length - 1)) 0 with h | h | h
    · rw [Int.sign_eq_neg_one_of_neg h]; decide
    · rw [h]; decide
    · omega
  refine cmp_true rfl hsle ?_
  exact fin ⟨rfl, rfl, rfl⟩ (Seals.trans (Seals.drop 0 _ _) (Seals.trans (Seals.drop 0 _ _) (Seals.nil _ _)))
end Go.Proofs.Ytabdfhdddmbmlaa

namespace Go.Proofs.Ytabdfhdddmbmlaa
open Go.ChangeShapes Go.WideShapes Go.ChangeAt Go.RowKit
open Go.Joins (open_agg2)
set_option maxRecDepth 100000 in
theorem latticeShort_lifted (os : Os) (started : os.Started) (H : Type) (enc : TypeId × Value → H) :
    ReturnsInHanded {} Try.checked os 6 .any (Rows.latticeShortSpec.pre6 enc Try.prog Try.f6 Rows.latticeShortRow.domain false) (Rows.latticeShortSpec.post enc Try.prog Try.f6 false true false false) := by
  refine returnsInHanded_of_change (C := Try.checked) own0 started (by kernel_rfl) Try.func6
    (ChangeSpec.witness6 (enc := enc) (C := Try.checked) false ⟨#[], #[.slice none 0 0, .slice none 0 0], []⟩ 8 (by kernel_rfl) (by kernel_rfl) (by kernel_rfl) (by kernel_rfl)) ?_
  intro Wd base args ds gs before hval0 hW hcnd _
  have hval : ∀ (j : Nat) t v, Try.f6.params[j]? = some t → args[j]? = some v → Value.okWide Try.prog Wd .any base t v := hval0
  have hW' := hW
  obtain ⟨p, q, hA0, hV, rfl, hfz, hnd⟩ := hW
  have hA : DataW.TrodAll enc Try.prog Wd 0 (fun _ => true) true Try.f6.params.toList args.toList ds p := hA0
  rw [Try.params6] at hA hval
  obtain ⟨v0, vs0, d0, ds0, p0, q0, hargs, rfl, rfl, h0, r0⟩ := trodAll_cons hA
  obtain ⟨v1, vs1, d1, ds1, p1, q1, rfl, rfl, rfl, h1, r1⟩ := trodAll_cons r0
  obtain ⟨rfl, rfl, rfl⟩ := trodAll_nil r1
  obtain rfl : args = #[v0, v1] := by cases args; simp_all
  obtain ⟨rfl, rfl⟩ := trodVars_none hV
  obtain ⟨a0, n0, c0, rfl⟩ := okWide_slice Try.underlying22 (hval 0 22 v0 rfl rfl)
  have k0 := h0
  have lt0 : ∀ x ∈ p0, x.block < Wd.heap.size := by obtain ⟨m, hm⟩ := k0; exact DataW.trod_lt m _ _ _ hm
  obtain ⟨m0, lm0, rd0⟩ : ∃ m, limM m ∧ Rd (fun b => b < Wd.heap.size) Wd (.slice a0 n0 c0) (W m) := by
    obtain ⟨fuel, hf⟩ := h0
    obtain ⟨m, e1, e2⟩ := rd_rows hf
    exact ⟨m, e1, rd_val rfl e2⟩
  obtain ⟨a1, n1, c1, rfl⟩ := okWide_slice Try.underlying36 (hval 1 36 v1 rfl rfl)
  have k1 := h1
  have lt1 : ∀ x ∈ p1, x.block < Wd.heap.size := by obtain ⟨m, hm⟩ := k1; exact DataW.trod_lt m _ _ _ hm
  obtain ⟨m1, lm1, rd1⟩ : ∃ m, limR m ∧ Rd (fun b => b < Wd.heap.size) Wd (.slice a1 n1 c1) (V m) := by
    obtain ⟨fuel, hf⟩ := h1
    obtain ⟨m, e1, e2⟩ := rd_row hf
    exact ⟨m, e1, rd_val rfl e2⟩
  clear hA0 hval0
  refine (calls_of_meets (w := Wd) (lshort_meets (.slice a0 n0 c0) (.slice a1 n1 c1) m0 m1 lm0 lm1) ?_).mono fun e W2 ⟨he, bel⟩ => ?_
  · intro F hF
    simp only [List.mem_cons, List.not_mem_nil, or_false] at hF
    rcases hF with rfl | rfl
    · exact rd0
    · exact rd1
  subst he
  exact ⟨_, rfl, _, _, _, [], _, [], hW', trodAll_mk1 (shut_bool Try.underlying4 _), (trodAll_cons_mk (Below.trod laid0 (by kernel_rfl) (of_decide_eq_true (by kernel_rfl)) k0 bel lt0) (trodAll_cons_mk (Below.trod laid0 (by kernel_rfl) (of_decide_eq_true (by kernel_rfl)) k1 bel lt1) trodAll_mk0)), rfl, bel.frame _, fun h => by cases h⟩
theorem latticeShort_holds : Rows.LatticeShortSaid :=
  OpenClaim.holds_of_wide 6 Try.f6 rfl rfl rfl rfl rfl rfl rfl ⟨rfl, rfl, rfl, rfl, rfl⟩ rfl rfl rfl rfl rfl (by kernel_rfl) Try.func6 (by kernel_rfl)
    (of_decide_eq_true (by kernel_rfl)) (by unfold Func.isWrapper; first | (rw [if_pos (by decide +kernel)]; kernel_rfl) | (rw [if_neg (by decide +kernel)]; exact ⟨rfl, rfl⟩))
    (fun os started H enc _ => latticeShort_lifted os started H enc)
#print axioms latticeShort_holds
end Go.Proofs.Ytabdfhdddmbmlaa
