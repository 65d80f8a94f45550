/- The law LatticeInside is true of each input, and changes none. No condition. -/
import Derived.Test.YtabdfhdddmbmlaaM5
import Derived.Test.YtabdfhdddmbmlaaRows
import Derived.OpenShut
import Derived.Below
import Derived.Lib.SmallJoins
set_option linter.unusedVariables false
set_option linter.unusedSimpArgs false

namespace Go.Proofs.Ytabdfhdddmbmlaa
open Go.RowKit
theorem lnum_cr (m : List Row) (v : Row) (c : Nat) : lnum m v c = cr (m.getD 0 []).length m.length (rvm m) (rv v) c := rfl
theorem lpart_lft (m : List Row) (v : Row) : lpart m v m.length = lft (m.getD 0 []).length m.length (rvm m) (rv v) (fun i => lnum m v i / linD m) := by
  unfold lpart lft
  rw [Int.sub_eq_add_neg, Int.add_comm]; rfl
/-- A row is inside just if it is a sum. -/
theorem lok_iff {m : List Row} {v : Row} (h : linD m ≠ 0) : lok m v ↔ ∃ x : Nat → Int, ∀ c, c < (m.getD 0 []).length → comb m.length x (rvm m) c = rv v c := by
  have hd := h
  rw [linD_dm] at hd
  constructor
  · rintro ⟨h1, h2⟩
    refine ⟨fun i => lnum m v i / linD m, ?_⟩
    rw [lpart_lft] at h2
    refine (inside_lft hd (q := fun i => lnum m v i / linD m) fun k hk => ?_).1 h2
    rw [← lnum_cr, ← linD_dm]
    exact (Int.mul_ediv_cancel' (Int.dvd_of_emod_eq_zero (h1 k hk))).symm
  · rintro ⟨x, hx⟩
    have h1 := inside_all hd hx
    have h3 : ∀ k, k < m.length → lnum m v k / linD m = x k := fun k hk => by
      rw [lnum_cr, h1 k hk, ← linD_dm, Int.mul_ediv_cancel_left _ h]
    refine ⟨fun k hk => by rw [lnum_cr, h1 k hk, ← linD_dm]; exact Int.mul_emod_right _ _, ?_⟩
    rw [lpart_lft, inside_lft hd fun k hk => by rw [h3 k hk]; exact h1 k hk]
    intro c hc
    rw [← hx c hc]
    exact isum_congr fun k hk => by show lnum m v k / linD m * _ = _; rw [h3 k hk]
/-- By just these. -/
theorem lins_sum {m : List Row} {v : Row} (hr : right m) (hl : v.length = (m.getD 0 []).length) (h : linD m ≠ 0) {x : Nat → Int} (hx : ∀ c, c < (m.getD 0 []).length → comb m.length x (rvm m) c = rv v c) :
    lins m v = ((List.range m.length).map x, 0) := by
  have hd := h
  rw [linD_dm] at hd
  have h1 := inside_all hd hx
  unfold lins
  rw [if_neg (fun g => g ⟨hr, hl⟩), if_neg h, if_pos ((lok_iff h).2 ⟨x, hx⟩)]
  congr 1
  refine List.map_congr_left fun k hk => ?_
  rw [lnum_cr, h1 k (List.mem_range.1 hk), ← linD_dm, Int.mul_ediv_cancel_left _ h]
theorem lins_not {m : List Row} {v : Row} (hr : right m) (hl : v.length = (m.getD 0 []).length) (hx : linD m ≠ 0 → ¬ ∃ x : Nat → Int, ∀ c, c < (m.getD 0 []).length → comb m.length x (rvm m) c = rv v c) :
    lins m v = ([], 8) := by
  unfold lins
  rw [if_neg (fun g => g ⟨hr, hl⟩)]
  by_cases h : linD m = 0
  · rw [if_pos h]
  · rw [if_neg h, if_neg (fun g => hx h ((lok_iff h).1 g))]
theorem linD_vol {a : List Row} (hr : right a) : lvol a = linD a := by unfold lvol; rw [if_pos hr]; rfl
section
variable {a : List Row} {k : Nat}
theorem Rdd.rvm (_ : Rdd a k) : Go.Proofs.Ytabdfhdddmbmlaa.rvm ((M1 a).map (·.map cn)) = mx (M1 a) := rvm_cn _
/-- Each row that was handed in is a sum of the reduced ones. -/
theorem Rdd.back (h : Rdd a k) : ∃ w : Mx, ∀ i c, i < a.length → c < (a.getD 0 []).length → comb a.length (w i) (mx (M1 a)) c = Go.Proofs.Ytabdfhdddmbmlaa.rvm a i c := by
  obtain ⟨w, hw⟩ := back_rows h.lb.ua h.lb.un
  refine ⟨w, fun i c hi hc => ?_⟩
  rw [← hw i c hi hc]
  exact isum_congr fun s hs => by rw [h.same s c hs hc]
theorem Rdd.uz (h : Rdd a k) (hf : Fits k a) (ln : a.length ≤ 1024) (lc : (a.getD 0 []).length ≤ 1048576) (hI : Ind (a.getD 0 []).length a.length (Go.Proofs.Ytabdfhdddmbmlaa.rvm a)) :
    Fits (lK k a.length + k + 1 + ((k + k + 2) * a.length + 1) + 1) ((M2 a).map (·.map cn)) :=
  (matL_szM fun i j hi hj => h.lb.uz (by omega) (by omega) (fun i c _ _ => rv_sz (hf.get i) c) (vol_of_ind hI) hi hj).fits
theorem Rdd.det (h : Rdd a k) : det a.length (mx (M2 a)) = 1 ∨ det a.length (mx (M2 a)) = -1 := by
  rw [det_congr fun i j hi hj => M2_at a hi hj]; exact h.lb.un
end
theorem lB_small {n : Nat} (h : n ≤ 4) : Eb (1 + 1 + 1) n ≤ 17179869184 ∧ Eb (lK 1 n + lK 1 n + 1) n ≤ 17179869184 ∧ Eb (lK 1 n + 1 + 1 + ((1 + 1 + 2) * n + 1) + 1) n ≤ 17179869184 ∧ lK 1 n + 1 + 1 + ((1 + 1 + 2) * n + 1) + 1 ≤ 100 := by
  have : n = 0 ∨ n = 1 ∨ n = 2 ∨ n = 3 ∨ n = 4 := by omega
  rcases this with rfl | rfl | rfl | rfl | rfl <;> decide
end Go.Proofs.Ytabdfhdddmbmlaa

namespace Go.Proofs.Ytabdfhdddmbmlaa
open Go.RowKit
theorem rshift_meets (n : Int) : Meets Try.prog 78 [.int .i64 n] [] (fun r os fs => os = [] ∧ fs = [] ∧ r = .int .i64 (far n : Nat)) := by
  refine meets_of_vc Try.func78 (by kernel_rfl) rfl (by kernel_rfl) (Nat.le_of_ble_eq_true rfl) ?_
  refine min2_rule ?_
  refine max2_rule ?_
  have hK : max 0 (min n 8192) = (far n : Int) := by unfold far; omega
  rw [hK]
  exact fin ⟨rfl, rfl, rfl⟩ (Seals.nil _ _)
theorem rShl01_meets (v : Value) (a : List Nat) (n : Int) (ha : Lim a) (la : a.length ≤ 274877906944) :
    Meets Try.prog 52 [v, .int .i64 n] [(v, U a)] (fun r os fs => os = [] ∧ fs = [(r, U (lims (nv a * 2 ^ far n)))]) := by
  have hK2 : far n ≤ 8192 := by unfold far; omega
  have hsh := rshift_meets n
  generalize far n = K at *
  have hq : K / 32 ≤ 256 := by omega
  have hs : K % 32 < 32 := Nat.mod_lt _ (by decide)
  have hpow : 2 ^ K = 4294967296 ^ (K / 32) * 2 ^ (K % 32) := by
    rw [show (4294967296 : Nat) = 2 ^ 32 from rfl, ← Nat.pow_mul, ← Nat.pow_add, Nat.div_add_mod K 32]
  have h2s : 2 ^ (K % 32) < 4294967296 := Nat.lt_of_lt_of_le (Nat.pow_lt_pow_right (by decide) hs) (by decide)
  have h1 := digs_len ha
  have h3 : (digs (nv a * 2 ^ (K % 32))).length ≤ 2 * a.length + 1 := by
    refine digs_length_le ?_
    rw [Nat.pow_succ, pow_two_mul]
    exact Nat.mul_lt_mul'' (nv_lt ha) h2s
  have hval : dv (List.replicate (K / 32) 0 ++ digs (nv a * 2 ^ (K % 32))) = nv a * 2 ^ K := by
    rw [dv_append, dv_replicate, dv_digs, List.length_replicate, hpow, Nat.zero_add]
    rw [Nat.mul_left_comm]
  refine meets_of_vc Try.func52 (by kernel_rfl) rfl (by kernel_rfl) (Nat.le_of_ble_eq_true rfl) ?_
  refine call_fn hsh (Seals.refl _ _) mS ?_
  rintro _ _ _ ⟨rfl, rfl, rfl⟩
  refine call_fn (digits_meets v a ha (by omega)) (Seals.refl _ _) mS ?_
  rintro x _ _ ⟨rfl, rfl⟩
  refine rem_rule (by omega) (by decide) ?_
  refine conv_int ⟨_, Try.underlying3⟩ Try.underlying92 ((K : Int) % 32) (wrap_in ⟨by omega, by omega⟩) ?_
  refine shl_rule 1 (K % 32) rfl (by omega) (by omega) ?_
  have e1 : ((1 * 2 ^ (K % 32) % 18446744073709551616 : Nat) : Int) = ((2 ^ (K % 32) : Nat) : Int) := by
    rw [Nat.one_mul, Nat.mod_eq_of_lt (by omega)]
  rw [e1]
  refine call_fn (rtimes_meets x (digs (nv a)) (2 ^ (K % 32)) (Dig_digs _) h2s (by omega)) (Seals.refl _ _) mS ?_
  rintro y _ _ ⟨rfl, rfl⟩
  rw [dv_digs]
  refine quo_rule (by omega) (by decide) ⟨by omega, by omega⟩ ?_
  refine make_U (K / 32) (by omega) (by omega) (by omega) (by omega) fun z hz => ?_
  refine append_U 0 rfl hz (Knw.fact mM) (by rw [List.length_replicate]; omega) (by rw [List.length_replicate]; omega) fun z2 hz2 => ?_
  refine call_fn (limbs_meets z2 (List.replicate (K / 32) 0 ++ digs (nv a * 2 ^ (K % 32))) (Dig.append (Dig.replicate _) (Dig_digs _)) (by rw [List.length_append, List.length_replicate]; omega)) (Seals.U 0 rfl hz2) mS ?_
  rintro r _ _ ⟨rfl, rfl⟩
  rw [hval]
  exact fin ⟨rfl, rfl⟩ (Seals.sub mS)
theorem rShlJ (v : Value) (x : Bool × List Nat) (n : Int) (hx : Lim x.2) (lx : x.2.length ≤ 274877906944) :
    Meets Try.prog 22 [v, .int .i64 n] [(v, J x)] (fun r os fs => os = [] ∧ fs = [(r, zd (jv x * 2 ^ far n))]) := by
  have e : iv x.1 (lims (nv x.2 * 2 ^ far n)) = jv x * 2 ^ far n := by
    unfold jv iv
    rw [nv_lims]
    cases x.1 <;> simp [Int.neg_mul]
  have hl : (lims (nv x.2 * 2 ^ far n)).length ≤ x.2.length + 129 := by
    refine lims_length_le ?_
    rw [Nat.pow_add]
    have hK2 : far n ≤ 8192 := by unfold far; omega
    have key : ∀ K m : Nat, K < 64 * m → 2 ^ K < 18446744073709551616 ^ m := fun K m h => by
      rw [show (18446744073709551616 : Nat) = 2 ^ 64 from rfl, ← Nat.pow_mul]
      exact Nat.pow_lt_pow_right (by decide) h
    exact Nat.mul_lt_mul'' (nv_lt hx) (key _ _ (by omega))
  refine meets_of_vc Try.func22 (by kernel_rfl) rfl (by kernel_rfl) (Nat.le_of_ble_eq_true rfl) ?_
  refine box_rule (Reads.fact (d := I x.1 x.2) mM) fun p hp => ?_
  refine alloc_rule (d := I false []) fun o ho => ?_
  refine draw_rule [0, 1, 2, 3, 4, 5, 6, 7] [0, 1, 2, 3, 4, 5, 6, 7] (by kernel_rfl) (by kernel_rfl) ?_
  refine field_box 1 rfl hp ?_
  refine load_box_field_one 1 rfl (Part.left (Part.refl _)) ?_
  refine field_box 1 rfl hp ?_
  refine load_box_field 1 rfl (Part.right (Part.refl _)) (load_L _) fun u1 => ?_
  refine call_fn (rShl01_meets u1 x.2 n hx lx) (Seals.refl _ _) mS ?_
  rintro u2 _ _ ⟨rfl, rfl⟩
  refine call_fn (rMake_meets u2 x.1 (lims (nv x.2 * 2 ^ far n)) (Lim_lims _) (by omega)) (Seals.refl _ _) mS ?_
  rintro u3 _ _ ⟨rfl, rfl⟩
  rw [e]
  refine store_box (d := zd (jv x * 2 ^ far n)) 0 rfl ho rfl (by kernel_rfl) ?_ ?_; exact Reads.fact mM
  refine load_box (d := zd (jv x * 2 ^ far n)) 0 rfl ho rfl (load_I _ _) fun r => ?_
  exact fin ⟨rfl, rfl⟩ (Seals.trans (Seals.drop 0 _ _) (Seals.trans (Seals.drop 0 _ _) (Seals.sub (fs' := [(r, zd (jv x * 2 ^ far n))]) mS)))
/-- The sum of the rows, each times its number. -/
def lsum (m : List Row) (c : Row) : List Int := (List.range (m.getD 0 []).length).map fun t => comb m.length (rv c) (rvm m) t
theorem comb_sz {m : List Row} {c : Row} {k i : Nat} (hf : Fits k m) (hc : Fit k c) (hi : i < 18446744073709551616) (t : Nat) : sz (comb i (rv c) (rvm m) t) (k + k + 1) :=
  isum_sz (fun s _ => (rv_sz hc s).mul (rv_sz (hf.get s) t)) hi
theorem rSum_meets (v w : Value) (m : List Row) (c : Row) (k : Nat) (hf : Fits k m) (hc : Fit k c) (hr : right m) (hl : m.length ≤ c.length) (hk : k ≤ 1048576) (lm : m.length ≤ 1048576) (lc : (m.getD 0 []).length ≤ 1048576) :
    Meets Try.prog 18 [v, w] [(v, W m), (w, V c)] (fun r os fs => os = [] ∧ fs = [(r, vd (lsum m c))]) := by
  have hlen : ∀ i, i < m.length → (m.getD i []).length = (m.getD 0 []).length := fun i hi => (hr.get hi).2
  refine meets_of_vc Try.func18 (by kernel_rfl) rfl (by kernel_rfl) (Nat.le_of_ble_eq_true rfl) ?_
  refine empty_L J z0 (by decide) fun o ho => ?_
  refine loop_rule (X := Nat × Value) (fun x => ([(0, v), (1, w), (5, x.2), (6, .int .i64 (x.1 : Nat))], [ownL 2 J z0 x.2 ((List.range x.1).map fun t => cn (comb m.length (rv c) (rvm m) t))], [(v, W m), (w, V c)]))
    (fun x => x.1 ≤ (m.getD 0 []).length ∧ isSl x.2) (fun x => (m.getD 0 []).length - x.1) rfl ?_ ?_
  · exact again (0, o) ⟨Nat.zero_le _, ho⟩ trivial mF (Seals.sub mS)
  · rintro ⟨t, o⟩ ⟨ht, ho⟩
    simp only at ht ho ⊢
    refine index_fact (v := v) mM 0 rfl hr.1 fun a1 => ?_
    refine load_fact (d := V (m.getD 0 [])) mM (load_V _) fun a2 => ?_
    refine len_fact (v := a2) mM fun _ => ?_
    refine cmp_split _ rfl (fun hlt => ?_) (fun hlt => ?_)
    · have htC : t < (m.getD 0 []).length := by omega
      refine build0 (da := .one (.bool false)) (db := U (lims 0)) (fun S w => ⟨[.bool false], [.slice none 0 0], rfl, rd_false S w, by rw [lims_zero]; exact rd_nil S w 1 _⟩) fun zz => ?_
      refine alloc_rule (d := I false []) fun s hs => ?_
      refine store_box (d := zd 0) 0 rfl hs rfl (by kernel_rfl) ?_ ?_; exact Reads.fact (d := zd 0) mM
      refine loop_rule (X := Nat) (fun i => ([(0, v), (1, w), (5, o), (6, .int .i64 (t : Nat)), (7, s), (8, .int .i64 (i : Nat))], [own1 s 2 1 (fun _ => zd (comb i (rv c) (rvm m) t)), ownL 2 J z0 o ((List.range t).map fun t => cn (comb m.length (rv c) (rvm m) t))], [(v, W m), (w, V c)]))
        (fun i => i ≤ m.length) (fun i => m.length - i) rfl ?_ ?_
      · exact again 0 (Nat.zero_le _) trivial mF (Seals.trans (Seals.box0 rfl) (Seals.sub (fs' := [(v, W m), (w, V c)]) mS))
      · rintro i hi
        refine len_fact (v := v) mM fun _ => ?_
        refine cmp_split _ rfl (fun hlt2 => ?_) (fun hlt2 => ?_)
        · have hin : i < m.length := by omega
          have f1 := hc.get i
          have f2 := (hf.get i).get t
          have g1 : sz (comb i (rv c) (rvm m) t) (k + k + 1) := comb_sz hf hc (by omega) t
          have g2 : sz (jv (c.getD i z0) * jv ((m.getD i []).getD t z0)) (k + k + 1) := ((sz_jv f1.1 f1.2).mul (sz_jv f2.1 f2.2)).mono (by omega)
          refine draw_rule [0, 1, 2, 3, 4, 5, 6, 7, 8, 9, 10, 11, 12, 13, 14] [0, 1, 2, 3, 4, 5, 6, 7, 8, 9, 10, 11, 12, 13, 14] (by kernel_rfl) (by kernel_rfl) ?_
          refine load_box (d := zd (comb i (rv c) (rvm m) t)) 0 rfl hs rfl (load_I _ _) fun y1 => ?_
          refine index_fact (v := w) mM i rfl (by omega) fun b1 => ?_
          refine load_fact (d := J (c.getD i z0)) mM (load_J _) fun y2 => ?_
          refine index_fact (v := v) mM i rfl hin fun b2 => ?_
          refine load_fact (d := V (m.getD i [])) mM (load_V _) fun b3 => ?_
          refine index_fact (v := b3) mM t rfl (by rw [hlen i hin]; omega) fun b4 => ?_
          refine load_fact (d := J ((m.getD i []).getD t z0)) mM (load_J _) fun y3 => ?_
          refine call_fn (rMulJ y2 y3 (c.getD i z0) ((m.getD i []).getD t z0) f1.1 (by omega) f2.1 (by omega)) (Seals.refl _ _) mS ?_
          rintro y4 _ _ ⟨rfl, rfl⟩
          refine call_fn (rAddZ y1 y4 _ _ (k + k + 1) g1 g2 (by omega)) (Seals.refl _ _) mS ?_
          rintro y5 _ _ ⟨rfl, rfl⟩
          refine store_box (d := zd (comb (i + 1) (rv c) (rvm m) t)) 0 rfl hs rfl (by kernel_rfl) ?_ ?_; exact Reads.fact mM
          refine ar rfl mI ?_
          exact again (i + 1) (by omega) (by simp only; omega) mF (Seals.trans (Seals.box0 rfl) (Seals.sub (fs' := [(v, W m), (w, V c)]) mS))
        · have hin : i = m.length := by omega
          have g1 : sz (comb m.length (rv c) (rvm m) t) (k + k + 1) := comb_sz hf hc (by omega) t
          rw [hin]
          refine load_box (d := zd (comb m.length (rv c) (rvm m) t)) 0 rfl hs rfl (load_I _ _) fun y1 => ?_
          refine call_fn (rNormZ y1 _ (k + k + 1) g1 (by omega)) (Seals.refl _ _) mS ?_
          rintro y2 _ _ ⟨rfl, rfl⟩
          refine lit_L (size := 2) J z0 (cn (comb m.length (rv c) (rvm m) t)) (by decide) (Reads.fact (d := zd (comb m.length (rv c) (rvm m) t)) mM) rfl fun l1 => ?_
          refine append_L 1 rfl ho (Knw.fact mM) (by simp; omega) (by simp; omega) fun o2 ho2 => ?_
          refine ar rfl mI ?_
          refine again (t + 1, o2) ⟨by simp only; omega, ho2⟩ (by simp only; omega) mF ?_
          simp only [range_snoc_map]
          exact Seals.trans (Seals.drop 0 _ _) (Seals.sub (fs' := [(v, W m), (w, V c)]) mS)
    · have htC : t = (m.getD 0 []).length := by omega
      subst htC
      refine fin ⟨rfl, rfl⟩ (Seals.trans (Seals.L 0 rfl ho) (Seals.cons ((Knw.fact mM).cast ?_) (Seals.nil _ _)))
      unfold vd lsum V
      rw [List.map_map]; rfl
end Go.Proofs.Ytabdfhdddmbmlaa

namespace Go.Proofs.Ytabdfhdddmbmlaa
open Go.RowKit
theorem fits4_meets (v : Value) (p : Row) (n k : Nat) :
    Meets Try.prog 16 [v, .int .i64 (n : Int), .int .i64 (k : Int)] [(v, V p)] (fun r os fs => os = [] ∧ fs = [] ∧ r = .bool (decide (smallR n k p))) := rFits_meets v p n k
theorem lsum_get {m : List Row} {c : Row} {t : Nat} (ht : t < (m.getD 0 []).length) : (lsum m c).getD t 0 = comb m.length (rv c) (rvm m) t := by
  unfold lsum
  rw [List.getD_eq_getElem?_getD, List.getElem?_map, List.getElem?_range ht]; rfl
section
variable {a : List Row} {k : Nat}
/-- A sum of the rows is a sum of the reduced ones. -/
theorem Rdd.sum (h : Rdd a k) (c : Nat → Int) : ∃ d : Nat → Int, ∀ t, t < (a.getD 0 []).length → comb a.length c (Go.Proofs.Ytabdfhdddmbmlaa.rvm a) t = comb a.length d (mx (M1 a)) t := by
  obtain ⟨w, hw⟩ := h.back
  exact ⟨_, fun t ht => comb_comb c w hw ht⟩
end
end Go.Proofs.Ytabdfhdddmbmlaa

namespace Go.Proofs.Ytabdfhdddmbmlaa
open Go.RowKit
end Go.Proofs.Ytabdfhdddmbmlaa

namespace Go.Proofs.Ytabdfhdddmbmlaa
open Go.RowKit
/-- The first t rows, four times each. -/
def scl (A : Mx) (t : Nat) : Mx := fun i j => if i < t then 4 * A i j else A i j
theorem det_scl (A : Mx) (n : Nat) : ∀ t, t ≤ n → det n (scl A t) = 4 ^ t * det n A
  | 0, _ => by
    rw [Int.pow_zero, Int.one_mul]
    exact det_congr fun i j _ _ => by unfold scl; rw [if_neg (Nat.not_lt_zero _)]
  | t + 1, ht => by
    have h := (det_form n).lin (scl A t) (r := t) (by omega) 4 0 (A t) (A t)
    have e1 : det n (rw' (scl A t) t fun j => 4 * A t j + 0 * A t j) = det n (scl A (t + 1)) := det_congr fun i j _ _ => by
      unfold rw' scl
      by_cases e : i = t
      · rw [if_pos e, if_pos (by omega), e]; show 4 * A t j + 0 * A t j = _; omega
      · rw [if_neg e]
        by_cases e2 : i < t
        · rw [if_pos e2, if_pos (by omega)]
        · rw [if_neg e2, if_neg (by omega)]
    have e2 : det n (rw' (scl A t) t (A t)) = det n (scl A t) := det_congr fun i j _ _ => by
      unfold rw' scl
      by_cases e : i = t
      · rw [if_pos e, if_neg (by omega), e]
      · rw [if_neg e]
    rw [e1, e2, det_scl A n t (by omega)] at h
    rw [h, Int.pow_succ]
    grind
theorem dm_twice {m n : Nat} {b : Mx} : dm m (fun i c => 2 * b i c) n = 4 ^ n * dm m b n := by
  unfold dm
  rw [dG_det, dG_det, ← det_scl _ n n (Nat.le_refl _)]
  refine det_congr fun i j hi _ => ?_
  unfold scl
  rw [if_pos hi]
  show ip m (fun c => 2 * b i c) (fun c => 2 * b j c) = 4 * ip m (b i) (b j)
  unfold ip
  rw [← isum_mul]
  exact isum_congr fun c _ => by grind
theorem dm_twice_ne {m n : Nat} {b : Mx} (h : dm m b n ≠ 0) : dm m (fun i c => 2 * b i c) n ≠ 0 := by
  rw [dm_twice]
  have : (0 : Int) < 4 ^ n := Int.pow_pos (by decide)
  exact Int.mul_ne_zero (by omega) h
/-- The rows, each twice as long. -/
def twice (a : List Row) : List Row := (List.range a.length).map fun i => (List.range (a.getD 0 []).length).map fun t => cn (rvm a i t * 2)
theorem twice_len (a : List Row) : (twice a).length = a.length := by unfold twice; simp
theorem twice_row {a : List Row} {i : Nat} (hi : i < a.length) : (twice a).getD i [] = (List.range (a.getD 0 []).length).map fun t => cn (rvm a i t * 2) := by
  unfold twice; rw [List.getD_eq_getElem?_getD, List.getElem?_map, List.getElem?_range hi]; rfl
theorem twice_col {a : List Row} {i : Nat} (hi : i < a.length) : ((twice a).getD i []).length = (a.getD 0 []).length := by rw [twice_row hi]; simp
theorem twice_at {a : List Row} {i t : Nat} (hi : i < a.length) (ht : t < (a.getD 0 []).length) : rvm (twice a) i t = 2 * rvm a i t := by
  show jv (((twice a).getD i []).getD t z0) = _
  rw [twice_row hi, List.getD_eq_getElem?_getD, List.getElem?_map, List.getElem?_range ht]
  show jv (cn _) = _
  rw [jv_cn, Int.mul_comm]
theorem twice_fits {a : List Row} {k : Nat} (hf : Fits k a) : Fits (k + 1) (twice a) := fun r hr x hx => by
  unfold twice at hr
  obtain ⟨i, _, rfl⟩ := List.mem_map.1 hr
  obtain ⟨t, _, rfl⟩ := List.mem_map.1 hx
  exact ⟨Lim_lims _, ((rv_sz (hf.get i) t).mul (sz_num 2 (by decide))).len⟩
theorem twice_right {a : List Row} (hr : right a) : right (twice a) := by
  refine ⟨by rw [twice_len]; exact hr.1, fun r h => ?_⟩
  rw [twice_col hr.1]
  unfold twice at h
  obtain ⟨i, _, rfl⟩ := List.mem_map.1 h
  have h1 := (hr.get hr.1).1
  rw [List.length_map, List.length_range]
  exact ⟨h1, rfl⟩
/-- The sum of the rows is inside the longer ones just if all its multiples are even. -/
theorem twice_inside {a : List Row} {c : Row} (hr : right a) (hD : linD a ≠ 0) :
    (lins (twice a) ((lsum a c).map cn)).2 = if (∀ j, j < a.length → rv c j % 2 = 0) then 0 else 8 := by
  have hC := twice_col hr.1
  have hl : ((lsum a c).map cn).length = ((twice a).getD 0 []).length := by rw [hC, List.length_map]; unfold lsum; simp
  have hd := hD
  rw [linD_dm] at hd
  have hv : ∀ t, t < (a.getD 0 []).length → rv ((lsum a c).map cn) t = comb a.length (rv c) (rvm a) t := fun t ht => by rw [rv_cn]; exact lsum_get ht
  have hsame : ∀ i t, i < a.length → t < (a.getD 0 []).length → rvm (twice a) i t = 2 * rvm a i t := fun i t hi ht => twice_at hi ht
  have hD2 : linD (twice a) ≠ 0 := by
    rw [linD_dm, hC, twice_len, dm_same (b := fun i t => 2 * rvm a i t) hsame (Nat.le_refl _)]
    exact dm_twice_ne hd
  have key : ∀ x : Nat → Int, (∀ t, t < ((twice a).getD 0 []).length → comb (twice a).length x (rvm (twice a)) t = rv ((lsum a c).map cn) t) ↔ ∀ j, j < a.length → 2 * x j = rv c j := fun x => by
    rw [hC, twice_len]
    have e : ∀ t, t < (a.getD 0 []).length → comb a.length x (rvm (twice a)) t = comb a.length (fun j => 2 * x j) (rvm a) t := fun t ht => by
      rw [← comb_twice]; exact isum_congr fun j hj => by rw [hsame j t hj ht]
    constructor
    · intro h
      exact comb_one hd fun t ht => by rw [← e t ht, h t ht, hv t ht]
    · intro h t ht
      rw [e t ht, hv t ht]
      exact isum_congr fun j hj => by show 2 * x j * _ = _; rw [h j hj]
  by_cases he : ∀ j, j < a.length → rv c j % 2 = 0
  · rw [if_pos he, lins_sum (x := fun j => rv c j / 2) (twice_right hr) hl hD2 ((key _).2 fun j hj => Int.mul_ediv_cancel' (Int.dvd_of_emod_eq_zero (he j hj)))]
  · rw [if_neg he, lins_not (twice_right hr) hl fun _ ⟨x, hx⟩ => he fun j hj => by
      have := (key x).1 hx j hj
      omega]
theorem inside_self {a : List Row} {c : Row} (hr : right a) (hD : linD a ≠ 0) : lins a ((lsum a c).map cn) = ((List.range a.length).map (rv c), 0) :=
  lins_sum hr (by rw [List.length_map]; unfold lsum; simp) hD fun t ht => by rw [rv_cn]; exact (lsum_get ht).symm
theorem inside_flat {a : List Row} {c : Row} (hr : right a) (hD : linD a = 0) : lins a ((lsum a c).map cn) = ([], 8) :=
  lins_not hr (by rw [List.length_map]; unfold lsum; simp) fun h => absurd hD h
theorem lims_low (n : Nat) (h : n ≠ 0) : (lims n).getD 0 0 = n % 18446744073709551616 := by rw [lims_pos h]; rfl
theorem even_low (x : Int) (h : x ≠ 0) : (((lims x.natAbs).getD 0 0 : Nat) : Int) % 2 = 0 ↔ x % 2 = 0 := by
  rw [lims_low _ (by omega)]; omega
theorem linside_meets (v w : Value) (a : List Row) (c : Row) (ha : limM a) (hc0 : limR c) :
    Meets Try.prog 4 [v, w] [(v, W a), (w, V c)] (fun r os fs => os = [] ∧ fs = [] ∧ r = .bool true) := by
  refine meets_of_vc Try.func4 (by kernel_rfl) rfl (by kernel_rfl) (Nat.le_of_ble_eq_true rfl) ?_
  refine call_fn shown4_meets (Seals.refl _ _) mS ?_
  rintro _ _ _ ⟨rfl, rfl, rfl⟩
  refine call_fn (little4_meets v a) (Seals.refl _ _) mS ?_
  rintro _ _ _ ⟨rfl, rfl, rfl⟩
  by_cases hs : small 4 5 1 a
  case neg =>
    rw [decide_eq_false hs]
    exact fin ⟨rfl, rfl, rfl⟩ (Seals.nil _ _)
  rw [decide_eq_true hs]
  have hf := hs.fits ha
  have hcc := hs.cols
  have hn := hs.1
  refine len_fact (v := w) mM fun _ => ?_
  refine len_fact (v := v) mM fun _ => ?_
  refine cmp_split _ rfl (fun hne => ?_) (fun heq => ?_)
  · exact fin ⟨rfl, rfl, rfl⟩ (Seals.nil _ _)
  have hlc : c.length = a.length := by omega
  refine call_fn (fits4_meets w c 4 1) (Seals.refl _ _) mS ?_
  rintro _ _ _ ⟨rfl, rfl, rfl⟩
  by_cases hsc : smallR 4 1 c
  case neg =>
    rw [decide_eq_false hsc]
    exact fin ⟨rfl, rfl, rfl⟩ (Seals.nil _ _)
  rw [decide_eq_true hsc]
  have hfc : Fit 1 c := fun x hx => ⟨hc0 x hx, hsc.2 x hx⟩
  refine call_fn (mRight_meets v a) (Seals.refl _ _) mS ?_
  rintro _ _ _ ⟨rfl, rfl, rfl⟩
  by_cases hr : right a
  case neg =>
    rw [decide_eq_false hr]
    exact fin ⟨rfl, rfl, rfl⟩ (Seals.nil _ _)
  rw [decide_eq_true hr]
  obtain ⟨b1, b2, b3, b4⟩ := lB_small hn
  have hEb : Eb (3 + 3 + 1) a.length ≤ 17179869184 := by
    have : a.length = 0 ∨ a.length = 1 ∨ a.length = 2 ∨ a.length = 3 ∨ a.length = 4 := by omega
    rcases this with e | e | e | e | e <;> rw [e] <;> decide
  have hn1 := hr.1
  have hlen : ∀ i, i < a.length → (a.getD i []).length = (a.getD 0 []).length := fun i hi => (hr.get hi).2
  have hsf : Fit 3 ((lsum a c).map cn) := Fit_cn fun x hx => by
    unfold lsum at hx
    obtain ⟨t, _, rfl⟩ := List.mem_map.1 hx
    exact comb_sz hf hfc (by omega) t
  have h1 := fun y => lInside_meets v y a ((lsum a c).map cn) 3 (hf.mono (by decide)) hsf (by decide) (by omega) (by omega) hEb
  have h2 := lVolume_meets v a 1 hf (by decide) (by omega) (by omega) b1
  rw [if_pos hr] at h2
  have hvz : sz (lvol a) 17 := by
    rw [linD_vol hr, linD_dm]
    unfold dm dG
    have e := det_sz a.length (by omega) (k := 1 + 1 + 1) (x := sub' (gr (a.getD 0 []).length (rvm a)) (dn a.length) (dn a.length)) fun x y _ _ => gmx_sz hf (by omega) _ _
    exact e.mono (by omega)
  have hsg := fun y => rSign_meets y (cn (lvol a)).1 (cn (lvol a)).2 (Lim_lims _) (Nat.le_trans hvz.len (by decide))
  have e0 : iv (cn (lvol a)).1 (cn (lvol a)).2 = lvol a := jv_cn _
  rw [e0] at hsg
  refine call_fn (rSum_meets v w a c 1 hf hfc hr (by omega) (by decide) (by omega) (by omega)) (Seals.refl _ _) mS ?_
  rintro s _ _ ⟨rfl, rfl⟩
  refine call_fn (h1 s) (Seals.refl _ _) mS ?_
  rintro _ _ _ ⟨rfl, x, rfl, rfl⟩
  refine call_fn h2 (Seals.refl _ _) mS ?_
  rintro _ _ _ ⟨rfl, vq, rfl, rfl⟩
  refine alloc_rule (d := I false []) fun vb hvb => ?_
  refine store_box (d := zd (lvol a)) 0 rfl hvb rfl (by kernel_rfl) ?_ ?_; exact Reads.fact mM
  refine load_box (d := zd (lvol a)) 0 rfl hvb rfl (load_I _ _) fun y1 => ?_
  refine call_fn (hsg y1) (Seals.refl _ _) mS ?_
  rintro _ _ _ ⟨rfl, rfl, rfl⟩
  refine cmp_split _ rfl (fun hz => ?_) (fun hz => ?_)
  · have hD : linD a = 0 := by rw [← linD_vol hr]; exact Int.sign_eq_zero_iff_zero.1 hz
    rw [inside_flat hr hD]
    refine cmp_true rfl rfl ?_
    refine len_fact (v := x) (n := 0) mM fun _ => ?_
    refine cmp_true rfl rfl ?_
    exact fin ⟨rfl, rfl, rfl⟩ (Seals.trans (Seals.drop 0 _ _) (Seals.nil _ _))
  have hD : linD a ≠ 0 := fun e => hz (by rw [linD_vol hr, e]; rfl)
  rw [inside_self hr hD]
  have hlast := twice_inside (c := c) hr hD
  have h3 := fun y z => lInside_meets y z (twice a) ((lsum a c).map cn) 3 ((twice_fits hf).mono (by decide)) hsf (by decide) (by rw [twice_len]; omega) (by rw [twice_col hn1]; omega) (by rw [twice_len]; exact hEb)
  have hwant : ((List.range a.length).map (rv c)).map cn = (List.range a.length).map fun i => cn (rv c i) := by rw [List.map_map]; rfl
  have hf2 : (2 : Int) ^ far 1 = 2 := by decide
  refine empty_L V [] (by decide) fun wd0 hwd0 => ?_
  refine empty_L J z0 (by decide) fun wt0 hwt0 => ?_
  refine loop_rule (X := Nat × Value × Value × Bool) (fun X => ([(0, v), (1, w), (5, .bool true), (6, s), (7, x), (8, .int .i64 0), (11, X.2.1), (12, .bool X.2.2.2), (13, X.2.2.1), (14, .int .i64 (X.1 : Nat))],
      [own1 X.2.2.1 2 X.1 (fun y => zd (rv c y)), ownL 1 V [] X.2.1 ((List.range X.1).map fun i => (List.range (a.getD 0 []).length).map fun t => cn (rvm a i t * 2))], [(x, vd ((List.range a.length).map (rv c))), (s, vd (lsum a c)), (v, W a), (w, V c)]))
    (fun X => X.1 ≤ a.length ∧ isSl X.2.1 ∧ isSl X.2.2.1 ∧ (X.2.2.2 = true ↔ ∀ j, j < X.1 → rv c j % 2 = 0)) (fun X => a.length - X.1) rfl ?_ ?_
  · exact again (0, wd0, wt0, true) ⟨Nat.zero_le _, hwd0, hwt0, ⟨fun _ j hj => absurd hj (Nat.not_lt_zero _), fun _ => rfl⟩⟩ trivial mF (Seals.trans (Seals.own_cong (os := [_, _, _]) 0 (fun y => zd (rv c y)) rfl rfl (fun y hy => absurd hy (Nat.not_lt_zero _))) (Seals.trans (Seals.drop 2 _ _) (Seals.sub (fs' := [(x, vd ((List.range a.length).map (rv c))), (s, vd (lsum a c)), (v, W a), (w, V c)]) mS)))
  · rintro ⟨i, dv1, wv1, ev⟩ ⟨hi, hdv, hwv, hev⟩
    simp only at hi hdv hwv hev ⊢
    refine len_fact (v := v) mM fun _ => ?_
    refine cmp_split _ rfl (fun hlt => ?_) (fun hlt => ?_)
    · have hin : i < a.length := by omega
      refine empty_L J z0 (by decide) fun r0 hr0 => ?_
      refine loop_rule (X := Nat × Value) (fun X => ([(0, v), (1, w), (5, .bool true), (6, s), (7, x), (8, .int .i64 0), (11, dv1), (12, .bool ev), (13, wv1), (14, .int .i64 (i : Nat)), (15, X.2), (16, .int .i64 (X.1 : Nat))],
          [ownL 2 J z0 X.2 ((List.range X.1).map fun t => cn (rvm a i t * 2)), own1 wv1 2 i (fun y => zd (rv c y)), ownL 1 V [] dv1 ((List.range i).map fun i => (List.range (a.getD 0 []).length).map fun t => cn (rvm a i t * 2))], [(x, vd ((List.range a.length).map (rv c))), (s, vd (lsum a c)), (v, W a), (w, V c)]))
        (fun X => X.1 ≤ (a.getD 0 []).length ∧ isSl X.2) (fun X => (a.getD 0 []).length - X.1) rfl ?_ ?_
      · exact again (0, r0) ⟨Nat.zero_le _, hr0⟩ trivial mF (Seals.sub (fs' := [(x, vd ((List.range a.length).map (rv c))), (s, vd (lsum a c)), (v, W a), (w, V c)]) mS)
      · rintro ⟨t, rr⟩ ⟨ht, hrr⟩
        simp only at ht hrr ⊢
        refine index_fact (v := v) mM i rfl hin fun i1 => ?_
        refine load_fact (d := V (a.getD i [])) mM (load_V _) fun i2 => ?_
        refine len_fact (v := i2) mM fun _ => ?_
        refine cmp_split _ rfl (fun hlt2 => ?_) (fun hlt2 => ?_)
        · have htC : t < (a.getD 0 []).length := by rw [← hlen i hin]; omega
          have f1 := (hf.get i).get t
          refine index_fact (v := v) mM i rfl hin fun i3 => ?_
          refine load_fact (d := V (a.getD i [])) mM (load_V _) fun i4 => ?_
          refine index_fact (v := i4) mM t rfl (by rw [hlen i hin]; exact htC) fun i5 => ?_
          refine load_fact (d := J ((a.getD i []).getD t z0)) mM (load_J _) fun i6 => ?_
          have hsh := rShlJ i6 ((a.getD i []).getD t z0) 1 f1.1 (by omega)
          rw [hf2] at hsh
          refine call_fn (hsh) (Seals.refl _ _) mS ?_
          rintro i7 _ _ ⟨rfl, rfl⟩
          refine lit_L (size := 2) J z0 (cn (rvm a i t * 2)) (by decide) (Reads.fact (d := zd (rvm a i t * 2)) mM) rfl fun l1 => ?_
          refine append_L 0 rfl hrr (Knw.fact mM) (by simp; omega) (by simp; omega) fun r2 hr2 => ?_
          refine ar rfl mI ?_
          refine again (t + 1, r2) ⟨by simp only; omega, hr2⟩ (by simp only; omega) mF ?_
          simp only [range_snoc_map]
          exact Seals.sub (fs' := [(x, vd ((List.range a.length).map (rv c))), (s, vd (lsum a c)), (v, W a), (w, V c)]) mS
        · have htC : t = (a.getD 0 []).length := by rw [hlen i hin] at hlt2; omega
          rw [htC]
          refine BuildSliceK.pre (Seals.L 0 rfl hrr) ?_
          refine lit_L (size := 1) V [] ((List.range (a.getD 0 []).length).map fun t => cn (rvm a i t * 2)) (by decide) (Reads.fact (d := V ((List.range (a.getD 0 []).length).map fun t => cn (rvm a i t * 2))) mM) rfl fun l1 => ?_
          refine append_L 1 rfl hdv (Knw.fact mM) (by simp; omega) (by simp; omega) fun d2 hd2 => ?_
          have f1 := hfc.get i
          refine index_fact (v := w) mM i rfl (by omega) fun i3 => ?_
          refine load_fact (d := J (c.getD i z0)) mM (load_J _) fun i4 => ?_
          refine call_fn (rZNorm_meets i4 (c.getD i z0).1 (c.getD i z0).2 f1.1 (by omega)) (Seals.refl _ _) mS ?_
          rintro i5 _ _ ⟨rfl, rfl⟩
          refine lit_L (size := 2) J z0 (cn (rv c i)) (by decide) (Reads.fact (d := zd (rv c i)) mM) rfl fun l2 => ?_
          refine append_one (size := 2) (n := i) (el' := fun y => J ([cn (rv c i)].getD y z0)) (e' := fun y => zd (rv c y)) 0 rfl hwv (Knw.fact mM) (fun y hy => ?_) (by omega) (by omega) fun w2 hw2 => ?_
          · by_cases hyj : y < i
            · rw [if_pos hyj]
            · rw [if_neg hyj, show y = i by omega]; rfl
          have hpar := even_low (rv c i)
          cases ev
          case false =>
            refine ar rfl mI ?_
            refine again (i + 1, d2, w2, false) ⟨by simp only; omega, hd2, hw2, ⟨fun h => by simp at h, fun h => absurd (hev.2 fun j hj => h j (by simp only; omega)) (by simp)⟩⟩ (by simp only; omega) mF ?_
            simp only [range_snoc_map]
            exact Seals.sub (fs' := [(x, vd ((List.range a.length).map (rv c))), (s, vd (lsum a c)), (v, W a), (w, V c)]) mS
          have hev' := hev.1 rfl
          refine index_elem 0 rfl hw2 i rfl (by omega) ?_
          refine field_elem 0 rfl (by omega) ?_
          refine load_own (o := own1 w2 2 (i + 1) fun y => zd (rv c y)) (d := U (lims (rv c i).natAbs)) 0 0 rfl Nat.zero_lt_one i 1 rfl (by show i < i + 1; omega) (Part.right (Part.refl _)) (load_L _) fun g1 => ?_
          refine len_fact (v := g1) (n := (lims (rv c i).natAbs).length) mM fun _ => ?_
          have hl0 : (lims (rv c i).natAbs).length = 0 ↔ rv c i = 0 := ⟨fun h => by have := lims_eq_nil.1 (List.eq_nil_of_length_eq_zero h); omega, fun h => by rw [h]; exact bit_nil⟩
          have fin1 : ∀ b : Bool, (b = true ↔ rv c i % 2 = 0) → ((b = true) ↔ ∀ j, j < i + 1 → rv c j % 2 = 0) := fun b hb => by
            rw [hb]
            exact ⟨fun h j hj => by
              by_cases e : j = i
              · rw [e]; exact h
              · exact hev' j (by omega), fun h => h i (by omega)⟩
          refine cmp_split _ rfl (fun hg => ?_) (fun hg => ?_)
          · have hz0 : rv c i = 0 := hl0.1 (by omega)
            refine ar rfl mI ?_
            refine again (i + 1, d2, w2, true) ⟨by simp only; omega, hd2, hw2, fin1 true ⟨fun _ => by rw [hz0]; rfl, fun _ => rfl⟩⟩ (by simp only; omega) mF ?_
            simp only [range_snoc_map]
            exact Seals.sub (fs' := [(x, vd ((List.range a.length).map (rv c))), (s, vd (lsum a c)), (v, W a), (w, V c)]) mS
          · have hz0 : rv c i ≠ 0 := fun e => hg (by rw [hl0.2 e]; rfl)
            have hlp : 0 < (lims (rv c i).natAbs).length := Nat.pos_of_ne_zero fun e => hz0 (hl0.1 e)
            have hp := hpar hz0
            refine index_elem 0 rfl hw2 i rfl (by omega) ?_
            refine field_elem 0 rfl (by omega) ?_
            refine load_own (o := own1 w2 2 (i + 1) fun y => zd (rv c y)) (d := U (lims (rv c i).natAbs)) 0 0 rfl Nat.zero_lt_one i 1 rfl (by show i < i + 1; omega) (Part.right (Part.refl _)) (load_L _) fun g2 => ?_
            refine index_fact (v := g2) mM 0 rfl hlp fun g3 => ?_
            refine load_one mM ?_
            refine rem_rule (by omega) (by decide) ?_
            refine cmp_split _ rfl (fun hq => ?_) (fun hq => ?_)
            · refine ar rfl mI ?_
              refine again (i + 1, d2, w2, true) ⟨by simp only; omega, hd2, hw2, fin1 true ⟨fun _ => hp.1 hq, fun _ => rfl⟩⟩ (by simp only; omega) mF ?_
              simp only [range_snoc_map]
              exact Seals.sub (fs' := [(x, vd ((List.range a.length).map (rv c))), (s, vd (lsum a c)), (v, W a), (w, V c)]) mS
            · refine ar rfl mI ?_
              refine again (i + 1, d2, w2, false) ⟨by simp only; omega, hd2, hw2, fin1 false ⟨fun h => by simp at h, fun h => absurd (hp.2 h) hq⟩⟩ (by simp only; omega) mF ?_
              simp only [range_snoc_map]
              exact Seals.sub (fs' := [(x, vd ((List.range a.length).map (rv c))), (s, vd (lsum a c)), (v, W a), (w, V c)]) mS
    · have hin : i = a.length := by omega
      subst hin
      refine call_fn (h3 dv1 s) (Seals.trans (Seals.slice 0 (fun i => J ((((List.range a.length).map (rv c)).map cn).getD i z0)) rfl hwv fun i hi => by rw [range_cn _ hi]; rfl) (Seals.trans (Seals.L 0 rfl hdv)
        (Seals.cons (Knw.vd_of (Knw.fact (List.Mem.tail _ (List.Mem.head _)))) (Seals.sub (fs' := [(dv1, W (twice a)), (x, vd ((List.range a.length).map (rv c))), (s, vd (lsum a c))]) mS)))) mS ?_
      rintro _ _ _ ⟨rfl, x2, rfl, rfl⟩
      rw [hlast]
      refine cmp_true rfl rfl ?_
      refine call_fn (exallT x wv1 _ _ rfl) (Seals.refl _ _) mS ?_
      rintro _ _ _ ⟨rfl, rfl, rfl⟩
      by_cases he : ∀ j, j < a.length → rv c j % 2 = 0
      · rw [if_pos he]
        obtain rfl : ev = true := hev.2 he
        refine cmp_true rfl rfl ?_
        refine beq_split (fun _ => ?_) (fun h => absurd rfl h)
        exact fin ⟨rfl, rfl, rfl⟩ (Seals.nil _ _)
      · rw [if_neg he]
        obtain rfl : ev = false := by
          cases ev
          · rfl
          · exact absurd (hev.1 rfl) he
        refine cmp_false rfl (by decide) ?_
        refine beq_split (fun _ => ?_) (fun h => absurd rfl h)
        refine cmp_true rfl rfl ?_
        exact fin ⟨rfl, rfl, rfl⟩ (Seals.nil _ _)
end Go.Proofs.Ytabdfhdddmbmlaa

namespace Go.Proofs.Ytabdfhdddmbmlaa
open Go.ChangeShapes Go.WideShapes Go.ChangeAt Go.RowKit
open Go.Joins (open_agg2)
set_option maxRecDepth 100000 in
theorem latticeInside_lifted (os : Os) (started : os.Started) (H : Type) (enc : TypeId × Value → H) :
    ReturnsInHanded {} Try.checked os 4 .any (Rows.latticeInsideSpec.pre6 enc Try.prog Try.f4 Rows.latticeInsideRow.domain false) (Rows.latticeInsideSpec.post enc Try.prog Try.f4 false true false false) := by
  refine returnsInHanded_of_change (C := Try.checked) own0 started (by kernel_rfl) Try.func4
    (ChangeSpec.witness6 (enc := enc) (C := Try.checked) false ⟨#[], #[.slice none 0 0, .slice none 0 0], []⟩ 8 (by kernel_rfl) (by kernel_rfl) (by kernel_rfl) (by kernel_rfl)) ?_
  intro Wd base args ds gs before hval0 hW hcnd _
  have hval : ∀ (j : Nat) t v, Try.f4.params[j]? = some t → args[j]? = some v → Value.okWide Try.prog Wd .any base t v := hval0
  have hW' := hW
  obtain ⟨p, q, hA0, hV, rfl, hfz, hnd⟩ := hW
  have hA : DataW.TrodAll enc Try.prog Wd 0 (fun _ => true) true Try.f4.params.toList args.toList ds p := hA0
  rw [Try.params4] at hA hval
  obtain ⟨v0, vs0, d0, ds0, p0, q0, hargs, rfl, rfl, h0, r0⟩ := trodAll_cons hA
  obtain ⟨v1, vs1, d1, ds1, p1, q1, rfl, rfl, rfl, h1, r1⟩ := trodAll_cons r0
  obtain ⟨rfl, rfl, rfl⟩ := trodAll_nil r1
  obtain rfl : args = #[v0, v1] := by cases args; simp_all
  obtain ⟨rfl, rfl⟩ := trodVars_none hV
  obtain ⟨a0, n0, c0, rfl⟩ := okWide_slice Try.underlying22 (hval 0 22 v0 rfl rfl)
  have k0 := h0
  have lt0 : ∀ x ∈ p0, x.block < Wd.heap.size := by obtain ⟨m, hm⟩ := k0; exact DataW.trod_lt m _ _ _ hm
  obtain ⟨m0, lm0, rd0⟩ : ∃ m, limM m ∧ Rd (fun b => b < Wd.heap.size) Wd (.slice a0 n0 c0) (W m) := by
    obtain ⟨fuel, hf⟩ := h0
    obtain ⟨m, e1, e2⟩ := rd_rows hf
    exact ⟨m, e1, rd_val rfl e2⟩
  obtain ⟨a1, n1, c1, rfl⟩ := okWide_slice Try.underlying36 (hval 1 36 v1 rfl rfl)
  have k1 := h1
  have lt1 : ∀ x ∈ p1, x.block < Wd.heap.size := by obtain ⟨m, hm⟩ := k1; exact DataW.trod_lt m _ _ _ hm
  obtain ⟨m1, lm1, rd1⟩ : ∃ m, limR m ∧ Rd (fun b => b < Wd.heap.size) Wd (.slice a1 n1 c1) (V m) := by
    obtain ⟨fuel, hf⟩ := h1
    obtain ⟨m, e1, e2⟩ := rd_row hf
    exact ⟨m, e1, rd_val rfl e2⟩
  clear hA0 hval0
  refine (calls_of_meets (w := Wd) (linside_meets (.slice a0 n0 c0) (.slice a1 n1 c1) m0 m1 lm0 lm1) ?_).mono fun e W2 ⟨he, bel⟩ => ?_
  · intro F hF
    simp only [List.mem_cons, List.not_mem_nil, or_false] at hF
    rcases hF with rfl | rfl
    · exact rd0
    · exact rd1
  subst he
  exact ⟨_, rfl, _, _, _, [], _, [], hW', trodAll_mk1 (shut_bool Try.underlying4 _), (trodAll_cons_mk (Below.trod laid0 (by kernel_rfl) (of_decide_eq_true (by kernel_rfl)) k0 bel lt0) (trodAll_cons_mk (Below.trod laid0 (by kernel_rfl) (of_decide_eq_true (by kernel_rfl)) k1 bel lt1) trodAll_mk0)), rfl, bel.frame _, fun h => by cases h⟩
theorem latticeInside_holds : Rows.LatticeInsideSaid :=
  OpenClaim.holds_of_wide 4 Try.f4 rfl rfl rfl rfl rfl rfl rfl ⟨rfl, rfl, rfl, rfl, rfl⟩ rfl rfl rfl rfl rfl (by kernel_rfl) Try.func4 (by kernel_rfl)
    (of_decide_eq_true (by kernel_rfl)) (by unfold Func.isWrapper; first | (rw [if_pos (by decide +kernel)]; kernel_rfl) | (rw [if_neg (by decide +kernel)]; exact ⟨rfl, rfl⟩))
    (fun os started H enc _ => latticeInside_lifted os started H enc)
#print axioms latticeInside_holds
end Go.Proofs.Ytabdfhdddmbmlaa
