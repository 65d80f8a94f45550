/- Towards the statement, part 2 of 8: contracts of functions, and what they rest on. Conditions: each theorem names its own. -/
import Derived.Test.YtjebljkoiaojaaaGreatM1
set_option linter.unusedVariables false
set_option linter.unusedSimpArgs false
namespace Go.Proofs.YtjebljkoiaojaaaGreat
open Go.RowKit
theorem less_eq {Sa Sb Sm P s c c' x y : Nat} (h : Sm + Sb = Sa + P * c) (hs : s + y + c = x + 18446744073709551616 * c') :
    (Sm + P * s) + (Sb + P * y) = (Sa + P * x) + P * 18446744073709551616 * c' := by
  have : P * s + P * y + P * c = P * x + P * 18446744073709551616 * c' := by rw [Nat.mul_assoc, ← Nat.mul_add, ← Nat.mul_add, hs, Nat.mul_add]
  omega
theorem less_meets (va vb : Value) (a b : List Nat) (ha : Lim a) (hb : Lim b) (la : a.length ≤ 1099511627776) (hlb : b.length ≤ a.length) (hle : nv b ≤ nv a) :
    Meets Tryz.prog 161 [va, vb] [(va, U a), (vb, U b)] (fun r os fs => os = [] ∧ ∃ m, fs = [(r, U m)] ∧ Lim m ∧ nv m = nv a - nv b) := by
  refine meets_of_vc Tryz.func161 (by kernel_rfl) rfl (by kernel_rfl) (Nat.le_of_ble_eq_true rfl) ?_
  refine len_fact qM fun _ => ?_
  refine make_U a.length rfl rfl (by omega) (by omega) fun vo ho => ?_
  refine len_fact qM fun _ => ?_
  refine loop_rule (X := Nat × List Nat × Nat) (fun x => ([(0, va), (1, vb), (5, vo), (6, .int .u64 (x.2.2 : Nat)), (13, .int .i64 (a.length : Nat)), (14, .int .i64 (x.1 : Nat))], [ownU vo x.2.1], [(va, U a), (vb, U b)]))
    (fun x => x.1 ≤ a.length ∧ x.2.1.length = a.length ∧ Lim x.2.1 ∧ x.2.2 ≤ 1 ∧
      nv (x.2.1.take x.1) + nv (b.take x.1) = nv (a.take x.1) + 18446744073709551616 ^ x.1 * x.2.2) (fun x => a.length - x.1) rfl ?_ ?_
  · exact again (0, List.replicate a.length 0, 0) ⟨Nat.zero_le _, by simp, Lim.replicate _, by simp, by simp [nv]⟩ trivial qF (Seals.sub qS)
  · rintro ⟨i, l, c⟩ ⟨h1, h2, h3, h4, h5⟩
    simp only at h1 h2 h3 h4 h5 ⊢
    refine cmp_split _ rfl (fun hc => ?_) (fun hc => ?_)
    · refine len_fact qM fun _ => ?_
      have hx := ha.get i
      have hy := hb.get i
      refine cmp_split _ rfl (fun hd => ?_) (fun hd => ?_)
      · refine index_fact qM i rfl (by omega) fun p => ?_
        refine load_one qM ?_
        refine index_fact qM i rfl (by omega) fun p => ?_
        refine load_one qM ?_
        refine sub64_rule (a.getD i 0) (b.getD i 0) c rfl (by first | rfl | (rw [getD_of_le (l := b) (by omega)]; rfl)) rfl h4 ?_
        refine index_U 0 rfl ho i rfl (by omega) ?_
        refine store_U 0 rfl _ rfl (by omega) ?_
        refine ar rfl qI ?_
        refine again (i + 1, l.set i ((a.getD i 0 + 18446744073709551616 - b.getD i 0 - c) % 18446744073709551616), if a.getD i 0 < b.getD i 0 + c then 1 else 0) ⟨by omega, by simp [h2], h3.set _ (by omega), by simp only; split <;> omega, ?_⟩ (by simp only; omega) qF (Seals.sub qS)
        simp only
        rw [nv_take_set (by omega), nv_take_succ, nv_take_succ, Nat.pow_succ]
        exact less_eq h5 (by split <;> omega)
      ·
        refine index_fact qM i rfl (by omega) fun p => ?_
        refine load_one qM ?_
        refine sub64_rule (a.getD i 0) (b.getD i 0) c rfl (by first | rfl | (rw [getD_of_le (l := b) (by omega)]; rfl)) rfl h4 ?_
        refine index_U 0 rfl ho i rfl (by omega) ?_
        refine store_U 0 rfl _ rfl (by omega) ?_
        refine ar rfl qI ?_
        refine again (i + 1, l.set i ((a.getD i 0 + 18446744073709551616 - b.getD i 0 - c) % 18446744073709551616), if a.getD i 0 < b.getD i 0 + c then 1 else 0) ⟨by omega, by simp [h2], h3.set _ (by omega), by simp only; split <;> omega, ?_⟩ (by simp only; omega) qF (Seals.sub qS)
        simp only
        rw [nv_take_set (by omega), nv_take_succ, nv_take_succ, Nat.pow_succ]
        exact less_eq h5 (by split <;> omega)
    · have hi : i = a.length := by omega
      refine fin ⟨rfl, l, rfl, h3, ?_⟩ ((Seals.U 0 rfl ho).trans (Seals.sub qS))
      have h6 := nv_lt h3
      rw [h2] at h6
      rw [hi, List.take_of_length_le (by omega), List.take_of_length_le (by omega), List.take_length] at h5
      have hc0 : c = 0 ∨ c = 1 := by omega
      rcases hc0 with rfl | rfl
      · omega
      · rw [Nat.mul_one] at h5; omega
theorem sub_meets (va vb : Value) (a b : List Nat) (ha : Lim a) (hb : Lim b) (la : a.length ≤ 1099511627776) :
    Meets Tryz.prog 139 [va, vb] [(va, U a), (vb, U b)] (fun r os fs => os = [] ∧ ((nv a < nv b ∧ fs = [] ∧ r = .tuple #[.slice none 0 0, .bool false]) ∨
      (nv b ≤ nv a ∧ ∃ s, r = .tuple #[s, .bool true] ∧ fs = [(s, U (lims (nv a - nv b)))]))) := by
  refine meets_of_vc Tryz.func139 (by kernel_rfl) rfl (by kernel_rfl) (Nat.le_of_ble_eq_true rfl) ?_
  refine call_fn (cmp_meets va vb a b ha hb) (Seals.refl _ _) qS ?_
  rintro _ _ _ ⟨rfl, rfl, rfl⟩
  refine cmp_split _ rfl (fun hc => ?_) (fun hc => ?_)
  · have : nv a < nv b := by unfold cmpN at hc; split at hc <;> first | assumption | (split at hc <;> omega)
    exact fin ⟨rfl, .inl ⟨this, rfl, rfl⟩⟩ (Seals.nil _ _)
  · have hle : nv b ≤ nv a := by unfold cmpN at hc; split at hc <;> omega
    refine call_fn (trim_meets va a) (Seals.refl _ _) qS ?_
    rintro va' _ _ ⟨rfl, rfl⟩
    refine call_fn (trim_meets vb b) (Seals.refl _ _) qS ?_
    rintro vb' _ _ ⟨rfl, rfl⟩
    rw [trimL_eq ha, trimL_eq hb]
    have hla := trimmed_len ha
    refine call_fn (less_meets va' vb' (lims (nv a)) (lims (nv b)) (Lim_lims _) (Lim_lims _) (by omega) (lims_len_mono hle) (by rw [nv_lims, nv_lims]; exact hle)) (Seals.refl _ _) qS ?_
    rintro vl _ _ ⟨rfl, m, rfl, hm, hnm⟩
    rw [nv_lims, nv_lims] at hnm
    refine call_fn (trim_meets vl m) (Seals.refl _ _) qS ?_
    rintro r _ _ ⟨rfl, rfl⟩
    rw [trimL_eq hm, hnm]
    exact fin ⟨rfl, .inr ⟨hle, r, rfl, rfl⟩⟩ (Seals.sub qS)
open Go.RowKit
theorem and_rule {P : Program} {t : TypeId} {x y : Operand} {os : List Own} {fs : List Fact} {K : Cont} (a : Nat) {z m : Int} (k p : Nat) (hz : z = (a : Int)) (hp : p = 2 ^ k) (hm : m = ((p - 1 : Nat) : Int)) (ha : a < 18446744073709551616) (hk : k ≤ 63)
    (h1 : K (.int .u64 ((a % p : Nat) : Int)) os fs) : BinK P .and t x y (.int .u64 z) (.int .u64 m) os fs K := by
  subst hz hm hp
  have hp : 2 ^ k ≤ 2 ^ 63 := Nat.pow_le_pow_right (by decide) hk
  have hlt : 2 ^ k - 1 < 18446744073709551616 := by omega
  refine ⟨det_pure _ (fun w => ?_) h1⟩
  have hb : (BitVec.ofInt 64 (a : Int) &&& BitVec.ofInt 64 ((2 ^ k - 1 : Nat) : Int)).toNat = a % 2 ^ k := by
    rw [BitVec.toNat_and]
    have e1 : (BitVec.ofInt 64 (a : Int)).toNat = a := by rw [BitVec.toNat_ofInt]; omega
    have e2 : (BitVec.ofInt 64 ((2 ^ k - 1 : Nat) : Int)).toNat = 2 ^ k - 1 := by
      generalize 2 ^ k - 1 = q at hlt
      rw [BitVec.toNat_ofInt]; omega
    rw [e1, e2, Nat.and_two_pow_sub_one_eq_mod]
  have hw : IntKind.u64.wrap ((a % 2 ^ k : Nat) : Int) = ((a % 2 ^ k : Nat) : Int) := wrap_in (by
    have : a % 2 ^ k ≤ a := Nat.mod_le _ _
    exact ⟨Int.natCast_nonneg _, by omega⟩)
  have hd : ∀ X Y : BitVec 64, (X &&& Y).toNat = a % 2 ^ k → IntKind.u64.wrap ((X &&& Y).toNat : Int) = ((a % 2 ^ k : Nat) : Int) := fun X Y h => by rw [h, hw]
  simp only [eqGuard, binOp, Op.intBits, Sem.run_bind, Sem.run_pure, Result.andThen_ok, IntKind.bits, ne_eq, not_true, if_false]
  exact congrArg (fun n => Result.ok (Value.int .u64 n) w) (hd _ _ hb)
theorem shr_rule {P : Program} {t : TypeId} {x y : Operand} {k k' : IntKind} {z s : Int} (a n p : Nat) {os : List Own} {fs : List Fact} {K : Cont} (hz : z = (a : Int)) (hs : s = (n : Int)) (hp : p = 2 ^ n) (hn : n ≤ k.bits)
    (h1 : K (.int k ((a / p : Nat) : Int)) os fs) : BinK P .shr t x y (.int k z) (.int k' s) os fs K := by
  subst hs hz hp
  refine ⟨det_pure _ (fun w => ?_) h1⟩
  have h0 : ¬ ((n : Int) < 0) := by omega
  have h2 : (a : Int).fdiv (2 ^ n) = ((a / 2 ^ n : Nat) : Int) := by
    rw [Int.fdiv_eq_ediv_of_nonneg _ (show (0 : Int) ≤ 2 ^ n from Int.pow_nonneg (by decide))]
    simp
  simp [eqGuard, binOp, Op.shift, h0, Nat.min_eq_left hn, h2]
theorem mul64_core (a b c d : Nat) : d + (b + a / 4294967296) / 4294967296 + ((b + a / 4294967296) % 4294967296 + c) / 4294967296 = (a + 4294967296 * b + 4294967296 * c + 18446744073709551616 * d) / 18446744073709551616 := by omega
theorem mul64_eq (x y : Nat) : x / 4294967296 * (y / 4294967296) + (x / 4294967296 * (y % 4294967296) + x % 4294967296 * (y % 4294967296) / 4294967296) / 4294967296 +
    ((x / 4294967296 * (y % 4294967296) + x % 4294967296 * (y % 4294967296) / 4294967296) % 4294967296 + x % 4294967296 * (y / 4294967296)) / 4294967296 = x * y / 18446744073709551616 := by
  rw [mul64_core]
  congr 1
  have h1 : x = x % 4294967296 + 4294967296 * (x / 4294967296) := (Nat.mod_add_div x 4294967296).symm
  have h2 : y = y % 4294967296 + 4294967296 * (y / 4294967296) := (Nat.mod_add_div y 4294967296).symm
  generalize x % 4294967296 = x0 at *
  generalize x / 4294967296 = x1 at *
  generalize y % 4294967296 = y0 at *
  generalize y / 4294967296 = y1 at *
  rw [h1, h2]
  simp only [Nat.add_mul, Nat.mul_add]
  have e1 : x0 * (4294967296 * y1) = 4294967296 * (x0 * y1) := Nat.mul_left_comm _ _ _
  have e2 : 4294967296 * x1 * y0 = 4294967296 * (x1 * y0) := Nat.mul_assoc _ _ _
  have e3 : 4294967296 * x1 * (4294967296 * y1) = 18446744073709551616 * (x1 * y1) := by
    rw [Nat.mul_assoc, Nat.mul_left_comm x1, ← Nat.mul_assoc]
  omega
theorem mul64_meets (x y : Nat) (hx : x < 18446744073709551616) (hy : y < 18446744073709551616) :
    Meets Tryz.prog 162 [.int .u64 (x : Int), .int .u64 (y : Int)] [] (fun r os fs => os = [] ∧ fs = [] ∧
      r = .tuple #[.int .u64 ((x * y / 18446744073709551616 : Nat) : Int), .int .u64 ((x * y % 18446744073709551616 : Nat) : Int)]) := by
  have b1 : x % 4294967296 ≤ 4294967295 := by omega
  have b2 : x / 4294967296 ≤ 4294967295 := by omega
  have b3 : y % 4294967296 ≤ 4294967295 := by omega
  have b4 : y / 4294967296 ≤ 4294967295 := by omega
  have m0 : x / 4294967296 * (y / 4294967296) ≤ 4294967295 * 4294967295 := Nat.mul_le_mul b2 b4
  have m1 : x / 4294967296 * (y % 4294967296) ≤ 4294967295 * 4294967295 := Nat.mul_le_mul b2 b3
  have m2 : x % 4294967296 * (y % 4294967296) ≤ 4294967295 * 4294967295 := Nat.mul_le_mul b1 b3
  have m3 : x % 4294967296 * (y / 4294967296) ≤ 4294967295 * 4294967295 := Nat.mul_le_mul b1 b4
  have h3 := mul64_eq x y
  have hxy : x * y < 340282366920938463463374607431768211456 := Nat.lt_of_le_of_lt (Nat.mul_le_mul (show x ≤ 18446744073709551615 by omega) (show y ≤ 18446744073709551615 by omega)) (by decide)
  have hs : ∀ n : Nat, n < 18446744073709551616 → IntKind.u64.wrap (n : Int) = (n : Int) := fun n hn => wrap_in ⟨Int.natCast_nonneg _, by omega⟩
  refine meets_of_vc Tryz.func162 (by kernel_rfl) rfl (by kernel_rfl) (Nat.le_of_ble_eq_true rfl) ?_
  refine and_rule x 32 4294967296 rfl rfl rfl hx (by decide) ?_
  refine shr_rule x 32 4294967296 rfl rfl rfl (by decide) ?_
  refine and_rule y 32 4294967296 rfl rfl rfl hy (by decide) ?_
  refine shr_rule y 32 4294967296 rfl rfl rfl (by decide) ?_
  generalize x % 4294967296 = x0 at *
  generalize x / 4294967296 = x1 at *
  generalize y % 4294967296 = y0 at *
  generalize y / 4294967296 = y1 at *
  have k00 := hs (x0 * y0) (by omega)
  have k10 := hs (x1 * y0) (by omega)
  have k01 := hs (x0 * y1) (by omega)
  have k11 := hs (x1 * y1) (by omega)
  refine ar_wrap rfl ((x0 * y0 : Nat) : Int) (by rw [← Int.natCast_mul]; exact k00) ?_
  refine ar_wrap rfl ((x1 * y0 : Nat) : Int) (by rw [← Int.natCast_mul]; exact k10) ?_
  refine shr_rule _ 32 4294967296 rfl rfl rfl (by decide) ?_
  refine ar_wrap rfl ((x1 * y0 + x0 * y0 / 4294967296 : Nat) : Int) (by rw [← Int.natCast_add]; exact hs _ (by omega)) ?_
  refine and_rule _ 32 4294967296 rfl rfl rfl (by omega) (by decide) ?_
  refine shr_rule _ 32 4294967296 rfl rfl rfl (by decide) ?_
  refine ar_wrap rfl ((x0 * y1 : Nat) : Int) (by rw [← Int.natCast_mul]; exact k01) ?_
  refine ar_wrap rfl (((x1 * y0 + x0 * y0 / 4294967296) % 4294967296 + x0 * y1 : Nat) : Int) (by rw [← Int.natCast_add]; exact hs _ (by omega)) ?_
  refine ar_wrap rfl ((x1 * y1 : Nat) : Int) (by rw [← Int.natCast_mul]; exact k11) ?_
  refine ar_wrap rfl ((x1 * y1 + (x1 * y0 + x0 * y0 / 4294967296) / 4294967296 : Nat) : Int) (by rw [← Int.natCast_add]; exact hs _ (by omega)) ?_
  refine shr_rule _ 32 4294967296 rfl rfl rfl (by decide) ?_
  refine ar_wrap rfl ((x * y / 18446744073709551616 : Nat) : Int) (by rw [← h3, ← Int.natCast_add]; exact hs _ (by omega)) ?_
  refine ar_wrap rfl ((x * y % 18446744073709551616 : Nat) : Int) (by
    rw [← Int.natCast_mul]
    generalize x * y = q at *
    simp [IntKind.wrap, IntKind.bits, IntKind.signed]) ?_
  exact fin ⟨rfl, rfl, rfl⟩ (Seals.nil _ _)
open Go.RowKit
theorem nv_set {l : List Nat} {j s : Nat} (h : j < l.length) : nv (l.set j s) + 18446744073709551616 ^ j * l.getD j 0 = nv l + 18446744073709551616 ^ j * s := by
  have h1 := nv_split l j
  have h2 := nv_split (l.set j s) j
  have e1 : (l.set j s).take j = l.take j := by rw [List.take_set_of_le (Nat.le_refl _)]
  have e2 : (l.set j s).drop (j + 1) = l.drop (j + 1) := by rw [List.drop_set_of_lt (by omega)]
  rw [e1, e2, getD_set h, if_pos rfl] at h2
  rw [h1, h2, Nat.mul_add, Nat.mul_add]
  omega
theorem mul_eq {nl' nl P o s M p c c' : Nat} (h1 : nl' + P * o = nl + P * s) (h2 : nl + P * c = M) (h3 : s + 18446744073709551616 * c' = p + o + c) :
    nl' + P * 18446744073709551616 * c' = M + P * p := by
  have : P * s + P * 18446744073709551616 * c' = P * p + P * o + P * c := by rw [Nat.mul_assoc, ← Nat.mul_add, h3, Nat.mul_add, Nat.mul_add]
  omega
theorem mul_carry {p o c : Nat} : ((p % 18446744073709551616 + o + 0) % 18446744073709551616 + c + 0) % 18446744073709551616 +
    18446744073709551616 * (p / 18446744073709551616 + (p % 18446744073709551616 + o + 0) / 18446744073709551616 + ((p % 18446744073709551616 + o + 0) % 18446744073709551616 + c + 0) / 18446744073709551616) = p + o + c := by omega
theorem nv_replicate (n : Nat) : nv (List.replicate n 0) = 0 := by
  induction n with
  | zero => simp [nv]
  | succ n ih => simp [List.replicate_succ, nv, ih]
theorem getD_replicate (n j : Nat) : (List.replicate n 0).getD j 0 = 0 := by
  simp only [List.getD_eq_getElem?_getD, List.getElem?_replicate]; split <;> rfl
theorem mul_meets (va vb : Value) (a b : List Nat) (ha : Lim a) (hb : Lim b) (la : a.length ≤ 1099511627776) (lb : b.length ≤ 1099511627776) :
    Meets Tryz.prog 141 [va, vb] [(va, U a), (vb, U b)] (fun r os fs => os = [] ∧ fs = [(r, U (lims (nv a * nv b)))]) := by
  refine meets_of_vc Tryz.func141 (by kernel_rfl) rfl (by kernel_rfl) (Nat.le_of_ble_eq_true rfl) ?_
  refine call_fn (trim_meets va a) (Seals.refl _ _) qS ?_
  rintro va' _ _ ⟨rfl, rfl⟩
  refine call_fn (trim_meets vb b) (Seals.refl _ _) qS ?_
  rintro vb' _ _ ⟨rfl, rfl⟩
  rw [trimL_eq ha, trimL_eq hb]
  have hla := trimmed_len ha
  have hlb := trimmed_len hb
  have hA := Lim_lims (nv a)
  have hB := Lim_lims (nv b)
  have eA := nv_lims (nv a)
  have eB := nv_lims (nv b)
  generalize lims (nv a) = x at *
  generalize lims (nv b) = y at *
  refine len_fact qM fun _ => ?_
  refine len_fact qM fun _ => ?_
  refine ar rfl qI ?_
  refine make_U (x.length + y.length) (by omega) (by omega) (by omega) (by omega) fun vo ho => ?_
  refine len_fact qM fun _ => ?_
  refine loop_rule (X := Nat × List Nat) (fun z => ([(1, vb'), (5, vo), (24, va'), (25, .int .i64 (x.length : Nat)), (26, .int .i64 (z.1 : Nat))], [ownU vo z.2], [(vb', U y), (va', U x)]))
    (fun z => z.1 ≤ x.length ∧ z.2.length = x.length + y.length ∧ Lim z.2 ∧ nv z.2 = nv (x.take z.1) * nv y ∧ ∀ j, z.1 + y.length ≤ j → z.2.getD j 0 = 0) (fun z => x.length - z.1) rfl ?_ ?_
  · exact again (0, List.replicate (x.length + y.length) 0) ⟨Nat.zero_le _, by simp, Lim.replicate _, by simp [nv_replicate, nv], fun j _ => getD_replicate _ _⟩ trivial qF (Seals.sub qS)
  · rintro ⟨i, l0⟩ ⟨h1, h2, h3, h4, h5⟩
    simp only at h1 h2 h3 h4 h5 ⊢
    refine cmp_split _ rfl (fun hc => ?_) (fun hc => ?_)
    · refine index_fact qM i rfl (by omega) fun p => ?_
      refine load_one qM ?_
      refine len_fact qM fun _ => ?_
      have hx := hA.get i
      refine loop_rule (X := Nat × List Nat × Nat) (fun z => ([(1, vb'), (5, vo), (24, va'), (25, .int .i64 (x.length : Nat)), (26, .int .i64 (i : Nat)), (6, .int .i64 (i : Nat)), (7, .int .u64 (x.getD i 0 : Nat)), (8, .int .u64 (z.2.2 : Nat)), (31, vb'), (32, .int .i64 (y.length : Nat)), (33, .int .i64 (z.1 : Nat))], [ownU vo z.2.1], [(vb', U y), (va', U x)]))
        (fun z => z.1 ≤ y.length ∧ z.2.1.length = x.length + y.length ∧ Lim z.2.1 ∧ z.2.2 < 18446744073709551616 ∧ nv z.2.1 + 18446744073709551616 ^ (i + z.1) * z.2.2 = nv l0 + 18446744073709551616 ^ i * (x.getD i 0 * nv (y.take z.1)) ∧ ∀ j, i + y.length ≤ j → z.2.1.getD j 0 = 0) (fun z => y.length - z.1) rfl ?_ ?_
      · exact again (0, l0, 0) ⟨Nat.zero_le _, h2, h3, by simp, by simp [nv], h5⟩ trivial qF (Seals.sub qS)
      · rintro ⟨k, l, c⟩ ⟨g1, g2, g3, g4, g5, g6⟩
        simp only at g1 g2 g3 g4 g5 g6 ⊢
        refine cmp_split _ rfl (fun hd => ?_) (fun hd => ?_)
        · refine index_fact qM k rfl (by omega) fun p => ?_
          refine load_one qM ?_
          have hy := hB.get k
          have ho' := g3.get (i + k)
          refine call_fn (mul64_meets (x.getD i 0) (y.getD k 0) hx hy) (Seals.refl _ _) qS ?_
          rintro _ _ _ ⟨rfl, rfl, rfl⟩
          have hp : x.getD i 0 * y.getD k 0 ≤ 18446744073709551615 * 18446744073709551615 := Nat.mul_le_mul (by omega) (by omega)
          refine ar rfl qI ?_
          refine index_U 0 rfl ho (i + k) rfl (by omega) ?_
          refine load_U 0 rfl (i + k) (by omega) ?_
          refine add64_rule (x.getD i 0 * y.getD k 0 % 18446744073709551616) (l.getD (i + k) 0) 0 rfl rfl rfl (by decide) ?_
          have hpe : nv (y.take (k + 1)) = nv (y.take k) + 18446744073709551616 ^ k * y.getD k 0 := nv_take_succ y k
          have hxy : 18446744073709551616 ^ i * (x.getD i 0 * nv (y.take (k + 1))) = 18446744073709551616 ^ i * (x.getD i 0 * nv (y.take k)) + 18446744073709551616 ^ (i + k) * (x.getD i 0 * y.getD k 0) := by
            rw [hpe, Nat.mul_add, Nat.mul_add, Nat.pow_add]
            congr 1
            rw [Nat.mul_assoc]; congr 1; rw [Nat.mul_left_comm]
          generalize x.getD i 0 * y.getD k 0 = q at *
          have hq := mul_carry (p := q) (o := l.getD (i + k) 0) (c := c)
          refine ar_wrap rfl ((q / 18446744073709551616 + (q % 18446744073709551616 + l.getD (i + k) 0 + 0) / 18446744073709551616 : Nat) : Int) (by rw [← Int.natCast_add]; exact wrap_in ⟨Int.natCast_nonneg _, by omega⟩) ?_
          refine add64_rule ((q % 18446744073709551616 + l.getD (i + k) 0 + 0) % 18446744073709551616) c 0 rfl rfl rfl (by decide) ?_
          refine ar rfl qI ?_
          refine ar_wrap rfl ((q / 18446744073709551616 + (q % 18446744073709551616 + l.getD (i + k) 0 + 0) / 18446744073709551616 + ((q % 18446744073709551616 + l.getD (i + k) 0 + 0) % 18446744073709551616 + c + 0) / 18446744073709551616 : Nat) : Int) (by rw [← Int.natCast_add]; exact wrap_in ⟨Int.natCast_nonneg _, by omega⟩) ?_
          refine index_U 0 rfl ho (i + k) rfl (by omega) ?_
          refine store_U 0 rfl _ rfl (by omega) ?_
          refine ar rfl qI ?_
          refine again (k + 1, l.set (i + k) (((q % 18446744073709551616 + l.getD (i + k) 0 + 0) % 18446744073709551616 + c + 0) % 18446744073709551616), q / 18446744073709551616 + (q % 18446744073709551616 + l.getD (i + k) 0 + 0) / 18446744073709551616 + ((q % 18446744073709551616 + l.getD (i + k) 0 + 0) % 18446744073709551616 + c + 0) / 18446744073709551616)
            ⟨by omega, by simp [g2], g3.set _ (by omega), by simp only; omega, ?_, fun j hj => ?_⟩ (by simp only; omega) qF (Seals.sub qS)
          · simp only
            rw [hxy, show i + (k + 1) = (i + k) + 1 by omega, Nat.pow_succ, ← Nat.add_assoc]
            exact mul_eq (nv_set (by omega)) g5 hq
          · simp only
            rw [getD_set (by omega), if_neg (by omega)]; exact g6 j hj
        · have hk : k = y.length := by omega
          refine len_fact qM fun _ => ?_
          refine ar rfl qI ?_
          refine index_U 0 rfl ho (i + y.length) rfl (by omega) ?_
          refine store_U 0 rfl c rfl (by omega) ?_
          refine ar rfl qI ?_
          refine again (i + 1, l.set (i + y.length) c) ⟨by omega, by simp [g2], g3.set _ g4, ?_, fun j hj => ?_⟩ (by simp only; omega) qF (Seals.sub qS)
          · simp only
            have e1 := nv_set (l := l) (j := i + y.length) (s := c) (by omega)
            rw [g6 _ (Nat.le_refl _)] at e1
            rw [hk, List.take_length] at g5
            rw [nv_take_succ, Nat.add_mul, ← h4, Nat.mul_assoc]
            omega
          · simp only
            rw [getD_set (by omega)]
            split
            · omega
            · exact g6 j (by omega)
    · have hi : i = x.length := by omega
      refine call_fn (trim_meets vo l0) (Seals.U 0 rfl ho) qS ?_
      rintro r _ _ ⟨rfl, rfl⟩
      exact fin ⟨rfl, rfl⟩ (Seals.cons ((Knw.fact qM).cast (by rw [trimL_eq h3, h4, hi, List.take_length, eA, eB])) (Seals.nil _ _))
end Go.Proofs.YtjebljkoiaojaaaGreat
namespace Go.Proofs.YtjebljkoiaojaaaGreat
def Dig (l : List Nat) : Prop := ∀ x, x ∈ l → x < 4294967296
def dv : List Nat → Nat
  | [] => 0
  | x :: r => x + 4294967296 * dv r
def digs (n : Nat) : List Nat :=
  if n = 0 then [] else (n % 4294967296) :: digs (n / 4294967296)
termination_by n
decreasing_by omega
theorem digs_zero : digs 0 = [] := by unfold digs; simp
theorem digs_pos {n : Nat} (h : n ≠ 0) : digs n = (n % 4294967296) :: digs (n / 4294967296) := by rw [digs]; simp [h]
theorem dv_digs (n : Nat) : dv (digs n) = n := by
  induction n using Nat.strongRecOn with
  | _ n ih =>
    by_cases h : n = 0
    · subst h; simp [digs_zero, dv]
    · rw [digs_pos h, dv, ih _ (by omega)]; omega
theorem Dig_digs (n : Nat) : Dig (digs n) := by
  induction n using Nat.strongRecOn with
  | _ n ih =>
    by_cases h : n = 0
    · subst h; simp [digs_zero, Dig]
    · rw [digs_pos h]
      intro x hx
      rcases List.mem_cons.1 hx with rfl | hx
      · omega
      · exact ih _ (by omega) x hx
theorem Dig.tail {x : Nat} {l : List Nat} (h : Dig (x :: l)) : Dig l := fun y hy => h y (by simp [hy])
theorem Dig.head {x : Nat} {l : List Nat} (h : Dig (x :: l)) : x < 4294967296 := h x (by simp)
theorem Dig.take {l : List Nat} (h : Dig l) (k : Nat) : Dig (l.take k) := fun x hx => h x (List.mem_of_mem_take hx)
theorem Dig.append {l m : List Nat} (h : Dig l) (h' : Dig m) : Dig (l ++ m) := fun x hx => (List.mem_append.1 hx).elim (h x) (h' x)
theorem Dig.get {l : List Nat} (h : Dig l) (i : Nat) : l.getD i 0 < 4294967296 := by
  by_cases hi : i < l.length
  · simp only [List.getD_eq_getElem?_getD, List.getElem?_eq_getElem hi, Option.getD_some]; exact h _ (List.getElem_mem hi)
  · simp [List.getD_eq_getElem?_getD, List.getElem?_eq_none (Nat.le_of_not_lt hi)]
theorem Dig.nil : Dig [] := fun _ h => by cases h
theorem Dig.cons {x : Nat} {l : List Nat} (h : x < 4294967296) (h' : Dig l) : Dig (x :: l) := fun y hy => by
  rcases List.mem_cons.1 hy with rfl | hy
  · exact h
  · exact h' y hy
theorem trimD_eq {l : List Nat} (h : Dig l) : trimL l = digs (dv l) := by
  induction l with
  | nil => simp [trimL, dv, digs_zero]
  | cons x r ih =>
    have ih := ih h.tail
    have hx := h.head
    simp only [trimL, dv, ih]
    by_cases hr : dv r = 0
    · rw [hr, digs_zero]
      by_cases hx0 : x = 0
      · simp [hx0, digs_zero]
      · simp only [hx0, if_false]
        rw [digs_pos (by omega)]
        have h1 : (x + 4294967296 * 0) % 4294967296 = x := by omega
        have h2 : (x + 4294967296 * 0) / 4294967296 = 0 := by omega
        rw [h1, h2, digs_zero]
    · rw [digs_pos (n := x + 4294967296 * dv r) (by omega)]
      have h1 : (x + 4294967296 * dv r) % 4294967296 = x := by omega
      have h2 : (x + 4294967296 * dv r) / 4294967296 = dv r := by omega
      rw [h1, h2]
      rw [digs_pos hr]
theorem dv_append (l m : List Nat) : dv (l ++ m) = dv l + 4294967296 ^ l.length * dv m := by
  induction l with
  | nil => simp [dv]
  | cons x r ih =>
    simp only [List.cons_append, dv, ih, List.length_cons, Nat.pow_succ]
    rw [Nat.mul_add, Nat.add_assoc]
    congr 2
    rw [← Nat.mul_assoc, Nat.mul_comm 4294967296]
theorem dv_lt {l : List Nat} (h : Dig l) : dv l < 4294967296 ^ l.length := by
  induction l with
  | nil => simp [dv]
  | cons x r ih =>
    have ih := ih h.tail
    have hx := h.head
    simp only [dv, List.length_cons, Nat.pow_succ]
    have : 4294967296 * dv r + 4294967296 ≤ 4294967296 * 4294967296 ^ r.length := by
      rw [← Nat.mul_succ]; exact Nat.mul_le_mul_left _ ih
    rw [Nat.mul_comm] at this
    rw [Nat.mul_comm (4294967296 ^ r.length)]
    omega
theorem digs_eq_nil {n : Nat} : digs n = [] ↔ n = 0 := by
  constructor
  · intro h
    have := dv_digs n
    rw [h] at this
    simpa [dv] using this.symm
  · rintro rfl; exact digs_zero
theorem digs_inj {m n : Nat} (h : digs m = digs n) : m = n := by rw [← dv_digs m, h, dv_digs]
theorem digs_length_le {n k : Nat} (h : n < 4294967296 ^ k) : (digs n).length ≤ k := by
  induction k generalizing n with
  | zero => have : n = 0 := by simpa using h
            subst this; simp [digs_zero]
  | succ k ih =>
    by_cases hn : n = 0
    · subst hn; simp [digs_zero]
    · rw [digs_pos hn, List.length_cons]
      have : n / 4294967296 < 4294967296 ^ k := by
        rw [Nat.div_lt_iff_lt_mul (by omega)]; rwa [Nat.pow_succ] at h
      have := ih this
      omega
theorem dv_take_set {l : List Nat} {i x : Nat} (h : i < l.length) : dv ((l.set i x).take (i + 1)) = dv (l.take i) + 4294967296 ^ i * x := by
  rw [take_set_succ h, dv_append]
  have : (l.take i).length = i := by simp; omega
  rw [this]; simp [dv]
theorem dv_take_succ (l : List Nat) (i : Nat) : dv (l.take (i + 1)) = dv (l.take i) + 4294967296 ^ i * l.getD i 0 := by
  by_cases h : i < l.length
  · rw [take_snoc h, dv_append]
    have : (l.take i).length = i := by simp; omega
    rw [this]; simp [dv]
  · rw [List.take_of_length_le (by omega), List.take_of_length_le (by omega)]
    simp [List.getD_eq_getElem?_getD, List.getElem?_eq_none (Nat.le_of_not_lt h)]
theorem Dig.set {l : List Nat} (h : Dig l) (i : Nat) {x : Nat} (hx : x < 4294967296) : Dig (l.set i x) := fun y hy => by
  rcases List.mem_or_eq_of_mem_set hy with hy | rfl
  · exact h y hy
  · exact hx
theorem Dig.replicate (n : Nat) : Dig (List.replicate n 0) := fun x hx => by rw [List.eq_of_mem_replicate hx]; decide
theorem digs_len_mono {a b : Nat} (h : a ≤ b) : (digs a).length ≤ (digs b).length := by
  have := dv_lt (Dig_digs b)
  rw [dv_digs] at this
  exact digs_length_le (by omega)
theorem dv_split (l : List Nat) (i : Nat) : dv l = dv (l.take i) + 4294967296 ^ i * (l.getD i 0 + 4294967296 * dv (l.drop (i + 1))) := by
  have h1 : dv l = dv (l.take i) + 4294967296 ^ i * dv (l.drop i) := by
    by_cases h : i ≤ l.length
    · have := dv_append (l.take i) (l.drop i)
      rw [List.take_append_drop] at this
      have hl : (l.take i).length = i := by simp; omega
      rw [hl] at this
      exact this
    · rw [List.take_of_length_le (by omega), List.drop_eq_nil_of_le (by omega)]; simp [dv]
  rw [h1]
  congr 2
  by_cases h : i < l.length
  · rw [List.drop_eq_getElem_cons h, dv]
    simp [List.getD_eq_getElem?_getD, h]
  · rw [List.drop_eq_nil_of_le (by omega), List.drop_eq_nil_of_le (by omega), getD_of_le (by omega)]; simp [dv]
theorem dv_lt_top {a b : List Nat} {i : Nat} (ha : Dig a) (_hb : Dig b) (hi : i < a.length) (hd : a.drop (i + 1) = b.drop (i + 1)) (h : a.getD i 0 < b.getD i 0) : dv a < dv b := by
  rw [dv_split a i, dv_split b i, hd]
  have h1 := dv_lt (ha.take i)
  have h2 : (a.take i).length = i := by simp; omega
  rw [h2] at h1
  have h3 : 4294967296 ^ i * (a.getD i 0 + 4294967296 * dv (b.drop (i + 1))) + 4294967296 ^ i ≤ 4294967296 ^ i * (b.getD i 0 + 4294967296 * dv (b.drop (i + 1))) := by
    rw [← Nat.mul_succ]; exact Nat.mul_le_mul_left _ (by omega)
  omega
theorem dv_set {l : List Nat} {j s : Nat} (h : j < l.length) : dv (l.set j s) + 4294967296 ^ j * l.getD j 0 = dv l + 4294967296 ^ j * s := by
  have h1 := dv_split l j
  have h2 := dv_split (l.set j s) j
  have e1 : (l.set j s).take j = l.take j := by rw [List.take_set_of_le (Nat.le_refl _)]
  have e2 : (l.set j s).drop (j + 1) = l.drop (j + 1) := by rw [List.drop_set_of_lt (by omega)]
  rw [e1, e2, getD_set h, if_pos rfl] at h2
  rw [h1, h2, Nat.mul_add, Nat.mul_add]
  omega
theorem dv_replicate (n : Nat) : dv (List.replicate n 0) = 0 := by
  induction n with
  | zero => simp [dv]
  | succ n ih => simp [List.replicate_succ, dv, ih]
open Go.RowKit
theorem rTrim_meets (v : Value) (l : List Nat) : Meets Tryz.prog 130 [v] [(v, U l)] (fun r os fs => os = [] ∧ fs = [(r, U (trimL l))]) := by
  refine meets_of_vc Tryz.func130 (by kernel_rfl) rfl (by kernel_rfl) (Nat.le_of_ble_eq_true rfl) ?_
  refine len_fact qM fun hl => ?_
  refine loop_rule (X := Nat) (fun k => ([(0, v), (3, .int .i64 (k : Nat))], [], [(v, U l)])) (fun k => k ≤ l.length ∧ trimL (l.take k) = trimL l) (fun k => k) rfl ?_ ?_
  · exact again l.length ⟨Nat.le_refl _, by rw [List.take_length]⟩ trivial qF (Seals.sub qS)
  · rintro k ⟨h1, h2⟩
    simp only at h1 h2 ⊢
    have done : trimL (l.take k) = l.take k → ∀ fs, (v, U l) ∈ fs → SliceK Tryz.prog 24 v none (some (.int .i64 (k : Nat))) none [] fs (fun u os fs => FinK (fun r os fs => os = [] ∧ fs = [(r, U (trimL l))]) u os fs) := fun h fs hm => by
      refine slice_fact (kl := .i64) (kh := .i64) hm 0 k _ _ (.inl ⟨rfl, rfl⟩) (.inr rfl) (by omega) (by omega) fun u => ?_
      have hlk : (l.take k).length = k := by simp; omega
      refine fin ⟨rfl, rfl⟩ (Seals.cons (((Knw.fact (List.Mem.head _)).sl_cong fun i hi => ?_).cast (show Dat.sl 1 (k - 0) (UE (l.take k)) = U (trimL l) by rw [← h2, h, U, hlk]; rfl)) (Seals.nil _ _))
      simp only [UE, List.getD_eq_getElem?_getD, Nat.zero_add]
      rw [List.getElem?_take_of_lt (by omega)]
    refine cmp_split _ rfl (fun hc => ?_) (fun hc => ?_)
    · obtain ⟨j, rfl⟩ : ∃ j, k = j + 1 := ⟨k - 1, by omega⟩
      refine ar rfl qI ?_
      refine index_fact qM j (by omega) (by omega) fun p => ?_
      refine load_one qM ?_
      refine cmp_split _ rfl (fun hd => ?_) (fun hd => ?_)
      · refine ar rfl qI ?_
        have h0 : l.getD j 0 = 0 := by omega
        exact again j ⟨by omega, by rw [← h2, take_snoc (by omega), h0, trimL_snoc_zero]⟩ (by simp) qF (Seals.sub qS)
      · exact done (trimL_all_ne (by omega) (by omega)) _ qM
    · have hk : k = 0 := by omega
      exact done (by subst hk; rfl) _ qM
theorem pow_two_mul (i : Nat) : 4294967296 ^ (2 * i) = 18446744073709551616 ^ i := by rw [Nat.pow_mul]
theorem digits_step {d n P x : Nat} (h : d = n) : (d + P * (x % 4294967296)) + P * 4294967296 * (x / 4294967296) = n + P * x := by
  have := Nat.mod_add_div x 4294967296
  rw [h, Nat.add_assoc, Nat.mul_assoc, ← Nat.mul_add, this]
theorem digits_meets (v : Value) (a : List Nat) (ha : Lim a) (la : a.length ≤ 1099511627776) :
    Meets Tryz.prog 127 [v] [(v, U a)] (fun r os fs => os = [] ∧ fs = [(r, U (digs (nv a)))]) := by
  refine meets_of_vc Tryz.func127 (by kernel_rfl) rfl (by kernel_rfl) (Nat.le_of_ble_eq_true rfl) ?_
  refine len_fact qM fun _ => ?_
  refine ar rfl qI ?_
  refine make_U (2 * a.length) (by omega) (by omega) (by omega) (by omega) fun vo ho => ?_
  refine loop_rule (X := Nat × List Nat) (fun x => ([(0, v), (3, vo), (4, .int .i64 (x.1 : Nat))], [ownU vo x.2], [(v, U a)]))
    (fun x => x.1 ≤ a.length ∧ x.2.length = 2 * a.length ∧ Dig x.2 ∧ dv (x.2.take (2 * x.1)) = nv (a.take x.1)) (fun x => a.length - x.1) rfl ?_ ?_
  · exact again (0, List.replicate (2 * a.length) 0) ⟨Nat.zero_le _, by simp, Dig.replicate _, by simp [dv, nv]⟩ trivial qF (Seals.sub qS)
  · rintro ⟨i, l⟩ ⟨h1, h2, h3, h4⟩
    simp only at h1 h2 h3 h4 ⊢
    refine len_fact qM fun _ => ?_
    refine cmp_split _ rfl (fun hc => ?_) (fun hc => ?_)
    · have hx := ha.get i
      refine ar rfl qI ?_
      refine index_fact qM i rfl (by omega) fun p => ?_
      refine load_one qM ?_
      refine rem_rule (by omega) (by omega) ?_
      refine index_U 0 rfl ho (2 * i) (by omega) (by omega) ?_
      refine store_U 0 rfl (a.getD i 0 % 4294967296) (by omega) (by omega) ?_
      refine ar rfl qI ?_
      refine ar rfl qI ?_
      refine index_fact qM i rfl (by omega) fun p => ?_
      refine load_one qM ?_
      refine quo_rule (by omega) (by omega) qI ?_
      refine index_U 0 rfl ho (2 * i + 1) (by omega) (by simp; omega) ?_
      refine store_U 0 rfl (a.getD i 0 / 4294967296) (by omega) (by simp; omega) ?_
      refine ar rfl qI ?_
      refine again (i + 1, (l.set (2 * i) (a.getD i 0 % 4294967296)).set (2 * i + 1) (a.getD i 0 / 4294967296)) ⟨by omega, by simp [h2], (h3.set _ (by omega)).set _ (by omega), ?_⟩ (by simp only; omega) qF (Seals.sub qS)
      simp only
      rw [show 2 * (i + 1) = 2 * i + 1 + 1 by omega, dv_take_set (by simp; omega), dv_take_set (by omega), nv_take_succ, Nat.pow_succ, pow_two_mul]
      exact digits_step h4
    · have hi : i = a.length := by omega
      refine call_fn (rTrim_meets vo l) (Seals.U 0 rfl ho) qS ?_
      rintro r _ _ ⟨rfl, rfl⟩
      refine fin ⟨rfl, rfl⟩ (Seals.cons ((Knw.fact qM).cast ?_) (Seals.nil _ _))
      rw [show 2 * i = l.length by omega, List.take_length, hi, List.take_length] at h4
      rw [trimD_eq h3, h4]
theorem trimL_len_eq {l : List Nat} (h : l.length ≤ (trimL l).length) : trimL l = l := by
  induction l with
  | nil => rfl
  | cons x r ih =>
    simp only [trimL] at h ⊢
    have hr := trimL_length r
    split at h
    · rename_i h0
      split at h
      · simp at h
      · rename_i hx
        simp only [List.length_cons, List.length_nil] at h
        have : r = [] := List.eq_nil_of_length_eq_zero (by omega)
        simp [hx, this]
    · rename_i y s h0
      rw [h0] at ih
      simp only [List.length_cons] at h ih
      rw [ih (by omega)]
theorem canon {l : List Nat} (h : Lim l) (hk : l.length = 0 ∨ 18446744073709551616 ^ (l.length - 1) ≤ nv l) : l = lims (nv l) := by
  rw [← trimL_eq h]
  refine (trimL_len_eq ?_).symm
  rcases hk with hk | hk
  · omega
  · rw [trimL_eq h]
    refine Nat.le_of_not_lt fun hlt => ?_
    have h1 := nv_lt (Lim_lims (nv l))
    rw [nv_lims] at h1
    have : 18446744073709551616 ^ (lims (nv l)).length ≤ 18446744073709551616 ^ (l.length - 1) := Nat.pow_le_pow_right (by decide) (by omega)
    omega
theorem digs_low {n : Nat} (h : (digs n).length ≠ 0) : 4294967296 ^ ((digs n).length - 1) ≤ n := by
  refine Nat.le_of_not_lt fun hlt => ?_
  have := digs_length_le hlt
  omega
theorem limbs_meets (v : Value) (d : List Nat) (hd : Dig d) (ld : d.length ≤ 2199023255552) :
    Meets Tryz.prog 125 [v] [(v, U d)] (fun r os fs => os = [] ∧ fs = [(r, U (lims (dv d)))]) := by
  refine meets_of_vc Tryz.func125 (by kernel_rfl) rfl (by kernel_rfl) (Nat.le_of_ble_eq_true rfl) ?_
  refine call_fn (rTrim_meets v d) (Seals.refl _ _) qS ?_
  rintro v' _ _ ⟨rfl, rfl⟩
  have hlen := trimL_length d
  rw [trimD_eq hd] at hlen ⊢
  have hD := Dig_digs (dv d)
  have hlow := digs_low (n := dv d)
  have hdv := dv_digs (dv d)
  generalize digs (dv d) = m at *
  refine loop_rule (X := Nat × List Nat × Value) (fun x => ([(0, v'), (3, x.2.2), (4, .int .i64 ((2 * x.1 : Nat)))], [ownU x.2.2 x.2.1], [(v', U m)]))
    (fun x => 2 * x.1 ≤ m.length + 1 ∧ isSl x.2.2 ∧ x.2.1.length = x.1 ∧ Lim x.2.1 ∧ nv x.2.1 = dv (m.take (2 * x.1))) (fun x => m.length + 2 - 2 * x.1) rfl ?_ ?_
  · exact again (0, [], .slice none 0 0) ⟨by omega, isSl_nil, rfl, Lim.nil, by simp [nv, dv]⟩ trivial qF ((Seals.nil_U _ _).trans (Seals.sub qS))
  · rintro ⟨k, l, vo⟩ ⟨h1, h0, h2, h3, h4⟩
    simp only at h0 h1 h2 h3 h4 ⊢
    refine len_fact qM fun _ => ?_
    refine cmp_split _ rfl (fun hc => ?_) (fun hc => ?_)
    · have hx := hD.get (2 * k)
      have hy := hD.get (2 * k + 1)
      refine index_fact qM (2 * k) rfl (by omega) fun p => ?_
      refine load_one qM ?_
      refine ar rfl qI ?_
      refine len_fact qM fun _ => ?_
      refine cmp_split _ rfl (fun he => ?_) (fun he => ?_)
      · refine ar rfl qI ?_
        refine index_fact qM (2 * k + 1) (by omega) (by omega) fun p => ?_
        refine load_one qM ?_
        refine ar rfl qI ?_
        refine ar rfl qI ?_
        refine lit_U (m.getD (2 * k) 0 + 4294967296 * m.getD (2 * k + 1) 0) (by first | rfl | omega) fun w => ?_
        refine append_U 0 rfl h0 (Knw.fact qM) (by simp; omega) (by simp; omega) fun v2 hv2 => ?_
        refine ar rfl qI ?_
        refine again (k + 1, l ++ [m.getD (2 * k) 0 + 4294967296 * m.getD (2 * k + 1) 0], v2) ⟨by omega, hv2, by simp [h2], h3.append (Lim.cons (by omega) Lim.nil), ?_⟩ (by simp only; omega) qF (Seals.sub qS)
        simp only
        rw [nv_append, h2, h4, show 2 * (k + 1) = 2 * k + 1 + 1 by omega, dv_take_succ, dv_take_succ, Nat.pow_succ, pow_two_mul]
        rw [Nat.add_assoc (dv _)]
        congr 1
        simp only [nv, Nat.mul_zero, Nat.add_zero, Nat.mul_add]
        rw [Nat.mul_assoc]
      ·
        refine lit_U (m.getD (2 * k) 0) (by first | rfl | omega) fun w => ?_
        refine append_U 0 rfl h0 (Knw.fact qM) (by simp; omega) (by simp; omega) fun v2 hv2 => ?_
        refine ar rfl qI ?_
        refine again (k + 1, l ++ [m.getD (2 * k) 0], v2) ⟨by omega, hv2, by simp [h2], h3.append (Lim.cons (by omega) Lim.nil), ?_⟩ (by simp only; omega) qF (Seals.sub qS)
        simp only
        rw [nv_append, h2, h4, show 2 * (k + 1) = 2 * k + 1 + 1 by omega, dv_take_succ, dv_take_succ, Nat.pow_succ, pow_two_mul]
        rw [getD_of_le (l := m) (i := 2 * k + 1) (by omega)]
        simp [nv]
    · refine fin ⟨rfl, rfl⟩ ((Seals.U 0 rfl h0).trans (Seals.cons ((Knw.fact qM).cast ?_) (Seals.nil _ _)))
      rw [List.take_of_length_le (by omega), hdv] at h4
      have : l = lims (nv l) := canon h3 (by
        by_cases hk : k = 0
        · omega
        · right
          have hm := hlow (by omega)
          rw [h4, h2]
          refine Nat.le_trans ?_ hm
          rw [← pow_two_mul]
          exact Nat.pow_le_pow_right (by decide) (by omega))
      rw [← h4, ← this]
open Go.RowKit
theorem cmpDigits_meets (va vb : Value) (m n : Nat) :
    Meets Tryz.prog 128 [va, vb] [(va, U (digs m)), (vb, U (digs n))] (fun r os fs => os = [] ∧ fs = [] ∧ r = .int .i64 (cmpN m n)) := by
  refine meets_of_vc Tryz.func128 (by kernel_rfl) rfl (by kernel_rfl) (Nat.le_of_ble_eq_true rfl) ?_
  refine len_fact qM fun _ => ?_
  refine len_fact qM fun _ => ?_
  refine cmp_split _ rfl (fun hc => ?_) (fun hc => ?_)
  · refine len_fact qM fun _ => ?_
    refine len_fact qM fun _ => ?_
    refine cmp_split _ rfl (fun hd => ?_) (fun hd => ?_)
    · refine fin ⟨rfl, rfl, ?_⟩ (Seals.nil _ _)
      have : m < n := Nat.lt_of_not_le fun h => by have := digs_len_mono h; omega
      simp [cmpN, this, tup]
    · refine fin ⟨rfl, rfl, ?_⟩ (Seals.nil _ _)
      have h : n < m := Nat.lt_of_not_le fun h => by have := digs_len_mono h; omega
      have h' : ¬ m < n := by omega
      simp [cmpN, h, h', tup]
  have hlen : (digs m).length = (digs n).length := by omega
  refine len_fact qM fun _ => ?_
  refine ar rfl qI ?_
  refine loop_rule (X := Nat) (fun k => ([(0, va), (1, vb), (5, .int .i64 ((k : Int) - 1))], [], [(va, U (digs m)), (vb, U (digs n))]))
    (fun k => k ≤ (digs m).length ∧ (digs m).drop k = (digs n).drop k) (fun k => k) rfl ?_ ?_
  · exact again (digs m).length ⟨Nat.le_refl _, by rw [List.drop_length, hlen, List.drop_length]⟩ trivial qF (Seals.sub qS)
  · rintro k ⟨h1, h2⟩
    simp only at h1 h2 ⊢
    refine cmp_split _ rfl (fun he => ?_) (fun he => ?_)
    · obtain ⟨i, rfl⟩ : ∃ i, k = i + 1 := ⟨k - 1, by omega⟩
      refine draw_rule [0, 1, 2, 3, 4, 5, 6, 7, 8] [0, 1, 2, 3, 4, 5, 6, 7, 8] (by kernel_rfl) (by kernel_rfl) ?_
      refine index_fact qM i (by omega) (by omega) fun p => ?_
      refine load_one qM ?_
      refine index_fact qM i (by omega) (by omega) fun q => ?_
      refine load_one qM ?_
      refine cmp_split _ rfl (fun hf => ?_) (fun hf => ?_)
      · refine fin ⟨rfl, rfl, ?_⟩ (Seals.nil _ _)
        have := dv_lt_top (Dig_digs m) (Dig_digs n) (i := i) (by omega) h2 (by omega)
        rw [dv_digs, dv_digs] at this
        simp [cmpN, this, tup]
      refine draw_rule [0, 1, 2, 3, 4, 5, 6, 7, 8] [0, 1, 2, 3, 4, 5, 6, 7, 8] (by kernel_rfl) (by kernel_rfl) ?_
      refine index_fact qM i (by omega) (by omega) fun p => ?_
      refine load_one qM ?_
      refine index_fact qM i (by omega) (by omega) fun q => ?_
      refine load_one qM ?_
      refine cmp_split _ rfl (fun hg => ?_) (fun hg => ?_)
      · refine fin ⟨rfl, rfl, ?_⟩ (Seals.nil _ _)
        have h := dv_lt_top (Dig_digs n) (Dig_digs m) (i := i) (by omega) h2.symm (by omega)
        rw [dv_digs, dv_digs] at h
        have h' : ¬ m < n := by omega
        simp [cmpN, h, h', tup]
      refine ar rfl qI ?_
      refine again i ⟨by omega, drop_step (by omega) (by omega) h2 (by omega)⟩ (by simp only; omega) qF (Seals.sub qS)
    · have hk : k = 0 := by omega
      refine fin ⟨rfl, rfl, ?_⟩ (Seals.nil _ _)
      rw [hk, List.drop_zero, List.drop_zero] at h2
      have := digs_inj h2
      simp [cmpN, this, tup]
theorem radd_eq {S1 S2 Sm P s c c' x y : Nat} (h : Sm + P * c = S1 + S2) (hs : s + 4294967296 * c' = c + x + y) :
    Sm + P * s + P * 4294967296 * c' = (S1 + P * x) + (S2 + P * y) := by
  have : P * s + P * 4294967296 * c' = P * c + P * x + P * y := by rw [Nat.mul_assoc, ← Nat.mul_add, hs, Nat.mul_add, Nat.mul_add]
  omega
theorem radd_meets (va vb : Value) (a b : List Nat) (ha : Dig a) (hb : Dig b) (la : a.length ≤ 2199023255552) (lb : b.length ≤ 2199023255552) :
    Meets Tryz.prog 126 [va, vb] [(va, U a), (vb, U b)] (fun r os fs => os = [] ∧ ∃ m, fs = [(r, U m)] ∧ Dig m ∧ dv m = dv a + dv b ∧ m.length ≤ a.length + b.length + 1) := by
  refine meets_of_vc Tryz.func126 (by kernel_rfl) rfl (by kernel_rfl) (Nat.le_of_ble_eq_true rfl) ?_
  refine loop_rule (X := Nat × List Nat × Nat × Value) (fun x => ([(0, va), (1, vb), (5, x.2.2.2), (6, .int .u64 (x.2.2.1 : Nat)), (7, .int .i64 (x.1 : Nat))], [ownU x.2.2.2 x.2.1], [(va, U a), (vb, U b)]))
    (fun x => x.1 + x.2.2.1 ≤ a.length + b.length + 1 ∧ x.2.1.length = x.1 ∧ Dig x.2.1 ∧ x.2.2.1 ≤ 1 ∧ isSl x.2.2.2 ∧
      dv x.2.1 + 4294967296 ^ x.1 * x.2.2.1 = dv (a.take x.1) + dv (b.take x.1)) (fun x => 2 * ((a.length - x.1) + (b.length - x.1)) + x.2.2.1) rfl ?_ ?_
  · exact again (0, [], 0, .slice none 0 0) ⟨by simp, rfl, Dig.nil, by simp, isSl_nil, by simp [dv]⟩ trivial qF ((Seals.nil_U _ _).trans (Seals.sub qS))
  · rintro ⟨i, l, c, vo⟩ ⟨h1, h2, h3, h4, h0, h5⟩
    simp only at h0 h1 h2 h3 h4 h5 ⊢
    have hx := ha.get i
    have hy := hb.get i
    have hs := Nat.mod_add_div (c + a.getD i 0 + b.getD i 0) 4294967296
    by_cases hia : i < a.length
    · by_cases hib : i < b.length
      ·
        (repeat (first | (refine len_fact qM fun _ => ?_) | (refine cmp_true rfl (by omega) ?_) | (refine cmp_false rfl (by omega) ?_) | (refine index_fact qM _ rfl (by omega) fun _ => ?_) | (refine load_one qM ?_) | (refine ar rfl qI ?_)))
        refine rem_rule (by omega) (by omega) ?_
        refine lit_U ((c + a.getD i 0 + b.getD i 0) % 4294967296) (by have := getD_of_le (l := a) (i := i); have := getD_of_le (l := b) (i := i); omega) fun w => ?_
        refine append_U 0 rfl h0 (Knw.fact qM) (by simp; omega) (by simp; omega) fun v2 hv2 => ?_
        refine quo_rule (by omega) (by omega) qI ?_
        refine ar rfl qI ?_
        refine again (i + 1, l ++ [(c + a.getD i 0 + b.getD i 0) % 4294967296], (c + a.getD i 0 + b.getD i 0) / 4294967296, v2) ⟨by simp only; have := getD_of_le (l := a) (i := i); have := getD_of_le (l := b) (i := i); omega, by simp [h2], h3.append (Dig.cons (by omega) Dig.nil), by simp only; omega, hv2, ?_⟩ (by simp only; have := getD_of_le (l := a) (i := i); have := getD_of_le (l := b) (i := i); omega) ⟨rfl, rfl, rfl, u64_eq (by simp only; have := getD_of_le (l := a) (i := i); have := getD_of_le (l := b) (i := i); omega), rfl, trivial⟩ (Seals.sub qS)
        simp only
        rw [dv_append, h2, dv_take_succ, dv_take_succ, Nat.pow_succ]
        simp only [dv, Nat.mul_zero, Nat.add_zero]
        exact radd_eq h5 hs
      ·
        (repeat (first | (refine len_fact qM fun _ => ?_) | (refine cmp_true rfl (by omega) ?_) | (refine cmp_false rfl (by omega) ?_) | (refine index_fact qM _ rfl (by omega) fun _ => ?_) | (refine load_one qM ?_) | (refine ar rfl qI ?_)))
        refine rem_rule (by omega) (by omega) ?_
        refine lit_U ((c + a.getD i 0 + b.getD i 0) % 4294967296) (by have := getD_of_le (l := a) (i := i); have := getD_of_le (l := b) (i := i); omega) fun w => ?_
        refine append_U 0 rfl h0 (Knw.fact qM) (by simp; omega) (by simp; omega) fun v2 hv2 => ?_
        refine quo_rule (by omega) (by omega) qI ?_
        refine ar rfl qI ?_
        refine again (i + 1, l ++ [(c + a.getD i 0 + b.getD i 0) % 4294967296], (c + a.getD i 0 + b.getD i 0) / 4294967296, v2) ⟨by simp only; have := getD_of_le (l := a) (i := i); have := getD_of_le (l := b) (i := i); omega, by simp [h2], h3.append (Dig.cons (by omega) Dig.nil), by simp only; omega, hv2, ?_⟩ (by simp only; have := getD_of_le (l := a) (i := i); have := getD_of_le (l := b) (i := i); omega) ⟨rfl, rfl, rfl, u64_eq (by simp only; have := getD_of_le (l := a) (i := i); have := getD_of_le (l := b) (i := i); omega), rfl, trivial⟩ (Seals.sub qS)
        simp only
        rw [dv_append, h2, dv_take_succ, dv_take_succ, Nat.pow_succ]
        simp only [dv, Nat.mul_zero, Nat.add_zero]
        exact radd_eq h5 hs
    · by_cases hib : i < b.length
      ·
        (repeat (first | (refine len_fact qM fun _ => ?_) | (refine cmp_true rfl (by omega) ?_) | (refine cmp_false rfl (by omega) ?_) | (refine index_fact qM _ rfl (by omega) fun _ => ?_) | (refine load_one qM ?_) | (refine ar rfl qI ?_)))
        refine rem_rule (by omega) (by omega) ?_
        refine lit_U ((c + a.getD i 0 + b.getD i 0) % 4294967296) (by have := getD_of_le (l := a) (i := i); have := getD_of_le (l := b) (i := i); omega) fun w => ?_
        refine append_U 0 rfl h0 (Knw.fact qM) (by simp; omega) (by simp; omega) fun v2 hv2 => ?_
        refine quo_rule (by omega) (by omega) qI ?_
        refine ar rfl qI ?_
        refine again (i + 1, l ++ [(c + a.getD i 0 + b.getD i 0) % 4294967296], (c + a.getD i 0 + b.getD i 0) / 4294967296, v2) ⟨by simp only; have := getD_of_le (l := a) (i := i); have := getD_of_le (l := b) (i := i); omega, by simp [h2], h3.append (Dig.cons (by omega) Dig.nil), by simp only; omega, hv2, ?_⟩ (by simp only; have := getD_of_le (l := a) (i := i); have := getD_of_le (l := b) (i := i); omega) ⟨rfl, rfl, rfl, u64_eq (by simp only; have := getD_of_le (l := a) (i := i); have := getD_of_le (l := b) (i := i); omega), rfl, trivial⟩ (Seals.sub qS)
        simp only
        rw [dv_append, h2, dv_take_succ, dv_take_succ, Nat.pow_succ]
        simp only [dv, Nat.mul_zero, Nat.add_zero]
        exact radd_eq h5 hs
      · by_cases hc : 0 < c
        ·
          (repeat (first | (refine len_fact qM fun _ => ?_) | (refine cmp_true rfl (by omega) ?_) | (refine cmp_false rfl (by omega) ?_) | (refine index_fact qM _ rfl (by omega) fun _ => ?_) | (refine load_one qM ?_) | (refine ar rfl qI ?_)))
          refine rem_rule (by omega) (by omega) ?_
          refine lit_U ((c + a.getD i 0 + b.getD i 0) % 4294967296) (by have := getD_of_le (l := a) (i := i); have := getD_of_le (l := b) (i := i); omega) fun w => ?_
          refine append_U 0 rfl h0 (Knw.fact qM) (by simp; omega) (by simp; omega) fun v2 hv2 => ?_
          refine quo_rule (by omega) (by omega) qI ?_
          refine ar rfl qI ?_
          refine again (i + 1, l ++ [(c + a.getD i 0 + b.getD i 0) % 4294967296], (c + a.getD i 0 + b.getD i 0) / 4294967296, v2) ⟨by simp only; have := getD_of_le (l := a) (i := i); have := getD_of_le (l := b) (i := i); omega, by simp [h2], h3.append (Dig.cons (by omega) Dig.nil), by simp only; omega, hv2, ?_⟩ (by simp only; have := getD_of_le (l := a) (i := i); have := getD_of_le (l := b) (i := i); omega) ⟨rfl, rfl, rfl, u64_eq (by simp only; have := getD_of_le (l := a) (i := i); have := getD_of_le (l := b) (i := i); omega), rfl, trivial⟩ (Seals.sub qS)
          simp only
          rw [dv_append, h2, dv_take_succ, dv_take_succ, Nat.pow_succ]
          simp only [dv, Nat.mul_zero, Nat.add_zero]
          exact radd_eq h5 hs
        · (repeat (first | (refine len_fact qM fun _ => ?_) | (refine cmp_true rfl (by omega) ?_) | (refine cmp_false rfl (by omega) ?_) | (refine index_fact qM _ rfl (by omega) fun _ => ?_) | (refine load_one qM ?_) | (refine ar rfl qI ?_)))
          refine fin ⟨rfl, l, rfl, h3, ?_, by omega⟩ ((Seals.U 0 rfl h0).trans (Seals.sub qS))
          rw [List.take_of_length_le (by omega), List.take_of_length_le (by omega), show c = 0 by omega] at h5
          omega
theorem rsub_eq {Sm Sb Sa P s c c' x y : Nat} (h : Sm + Sb = Sa + P * c) (hs : s + y + c = x + 4294967296 * c') :
    (Sm + P * s) + (Sb + P * y) = (Sa + P * x) + P * 4294967296 * c' := by
  have : P * s + P * y + P * c = P * x + P * 4294967296 * c' := by rw [Nat.mul_assoc, ← Nat.mul_add, ← Nat.mul_add, hs, Nat.mul_add]
  omega
theorem rsub_meets (va vb : Value) (a b : List Nat) (ha : Dig a) (hb : Dig b) (la : a.length ≤ 2199023255552) (hlb : b.length ≤ a.length) (hle : dv b ≤ dv a) :
    Meets Tryz.prog 129 [va, vb] [(va, U a), (vb, U b)] (fun r os fs => os = [] ∧ fs = [(r, U (digs (dv a - dv b)))]) := by
  refine meets_of_vc Tryz.func129 (by kernel_rfl) rfl (by kernel_rfl) (Nat.le_of_ble_eq_true rfl) ?_
  refine loop_rule (X := Nat × List Nat × Nat × Value) (fun x => ([(0, va), (1, vb), (5, x.2.2.2), (6, .int .u64 (x.2.2.1 : Nat)), (7, .int .i64 (x.1 : Nat))], [ownU x.2.2.2 x.2.1], [(va, U a), (vb, U b)]))
    (fun x => x.1 ≤ a.length ∧ x.2.1.length = x.1 ∧ Dig x.2.1 ∧ x.2.2.1 ≤ 1 ∧ isSl x.2.2.2 ∧
      dv x.2.1 + dv (b.take x.1) = dv (a.take x.1) + 4294967296 ^ x.1 * x.2.2.1) (fun x => a.length - x.1) rfl ?_ ?_
  · exact again (0, [], 0, .slice none 0 0) ⟨by simp, rfl, Dig.nil, by simp, isSl_nil, by simp [dv]⟩ trivial qF ((Seals.nil_U _ _).trans (Seals.sub qS))
  · rintro ⟨i, l, c, vo⟩ ⟨h1, h2, h3, h4, h0, h5⟩
    simp only at h0 h1 h2 h3 h4 h5 ⊢
    have hx := ha.get i
    have hy := hb.get i
    by_cases hia : i < a.length
    · by_cases hib : i < b.length
      ·
        (repeat (first | (refine len_fact qM fun _ => ?_) | (refine cmp_true rfl (by omega) ?_) | (refine cmp_false rfl (by omega) ?_) | (refine index_fact qM _ rfl (by omega) fun _ => ?_) | (refine load_one qM ?_) | (refine ar rfl qI ?_)))
        refine cmp_split _ rfl (fun hd => ?_) (fun hd => ?_)
        · refine ar rfl qI ?_
          refine ar rfl qI ?_
          refine lit_U (a.getD i 0 + 4294967296 - (c + b.getD i 0)) (by omega) fun w => ?_
          refine append_U 0 rfl h0 (Knw.fact qM) (by simp; omega) (by simp; omega) fun v2 hv2 => ?_
          refine ar rfl qI ?_
          refine again (i + 1, l ++ [a.getD i 0 + 4294967296 - (c + b.getD i 0)], 1, v2) ⟨by omega, by simp [h2], h3.append (Dig.cons (by omega) Dig.nil), by simp, hv2, ?_⟩ (by simp only; omega) qF (Seals.sub qS)
          simp only
          rw [dv_append, h2, dv_take_succ, dv_take_succ, Nat.pow_succ]
          have hh := rsub_eq (s := a.getD i 0 + 4294967296 - (c + b.getD i 0)) (c' := 1) (x := a.getD i 0) (y := b.getD i 0) h5 (by omega)
          simp only [dv, Nat.mul_zero, Nat.add_zero, Nat.mul_one] at hh ⊢
          exact hh
        · refine ar rfl qI ?_
          refine lit_U (a.getD i 0 - (c + b.getD i 0)) (by omega) fun w => ?_
          refine append_U 0 rfl h0 (Knw.fact qM) (by simp; omega) (by simp; omega) fun v2 hv2 => ?_
          refine ar rfl qI ?_
          refine again (i + 1, l ++ [a.getD i 0 - (c + b.getD i 0)], 0, v2) ⟨by omega, by simp [h2], h3.append (Dig.cons (by omega) Dig.nil), by simp, hv2, ?_⟩ (by simp only; omega) qF (Seals.sub qS)
          simp only
          rw [dv_append, h2, dv_take_succ, dv_take_succ, Nat.pow_succ]
          have hh := rsub_eq (s := a.getD i 0 - (c + b.getD i 0)) (c' := 0) (x := a.getD i 0) (y := b.getD i 0) h5 (by omega)
          simp only [dv, Nat.mul_zero, Nat.add_zero, Nat.mul_one] at hh ⊢
          exact hh
      · have hy0 := getD_of_le (l := b) (i := i) (by omega)
        (repeat (first | (refine len_fact qM fun _ => ?_) | (refine cmp_true rfl (by omega) ?_) | (refine cmp_false rfl (by omega) ?_) | (refine index_fact qM _ rfl (by omega) fun _ => ?_) | (refine load_one qM ?_) | (refine ar rfl qI ?_)))
        refine cmp_split _ rfl (fun hd => ?_) (fun hd => ?_)
        · refine ar rfl qI ?_
          refine ar rfl qI ?_
          refine lit_U (a.getD i 0 + 4294967296 - (c + b.getD i 0)) (by omega) fun w => ?_
          refine append_U 0 rfl h0 (Knw.fact qM) (by simp; omega) (by simp; omega) fun v2 hv2 => ?_
          refine ar rfl qI ?_
          refine again (i + 1, l ++ [a.getD i 0 + 4294967296 - (c + b.getD i 0)], 1, v2) ⟨by omega, by simp [h2], h3.append (Dig.cons (by omega) Dig.nil), by simp, hv2, ?_⟩ (by simp only; omega) qF (Seals.sub qS)
          simp only
          rw [dv_append, h2, dv_take_succ, dv_take_succ, Nat.pow_succ]
          have hh := rsub_eq (s := a.getD i 0 + 4294967296 - (c + b.getD i 0)) (c' := 1) (x := a.getD i 0) (y := b.getD i 0) h5 (by omega)
          simp only [dv, Nat.mul_zero, Nat.add_zero, Nat.mul_one] at hh ⊢
          exact hh
        · refine ar rfl qI ?_
          refine lit_U (a.getD i 0 - (c + b.getD i 0)) (by omega) fun w => ?_
          refine append_U 0 rfl h0 (Knw.fact qM) (by simp; omega) (by simp; omega) fun v2 hv2 => ?_
          refine ar rfl qI ?_
          refine again (i + 1, l ++ [a.getD i 0 - (c + b.getD i 0)], 0, v2) ⟨by omega, by simp [h2], h3.append (Dig.cons (by omega) Dig.nil), by simp, hv2, ?_⟩ (by simp only; omega) qF (Seals.sub qS)
          simp only
          rw [dv_append, h2, dv_take_succ, dv_take_succ, Nat.pow_succ]
          have hh := rsub_eq (s := a.getD i 0 - (c + b.getD i 0)) (c' := 0) (x := a.getD i 0) (y := b.getD i 0) h5 (by omega)
          simp only [dv, Nat.mul_zero, Nat.add_zero, Nat.mul_one] at hh ⊢
          exact hh
    · (repeat (first | (refine len_fact qM fun _ => ?_) | (refine cmp_true rfl (by omega) ?_) | (refine cmp_false rfl (by omega) ?_) | (refine index_fact qM _ rfl (by omega) fun _ => ?_) | (refine load_one qM ?_) | (refine ar rfl qI ?_)))
      refine call_fn (rTrim_meets vo l) (Seals.U 0 rfl h0) qS ?_
      rintro r _ _ ⟨rfl, rfl⟩
      refine fin ⟨rfl, rfl⟩ (Seals.cons ((Knw.fact qM).cast ?_) (Seals.nil _ _))
      have h6 := dv_lt h3
      rw [h2] at h6
      have hi : i = a.length := by omega
      rw [hi] at h6 h5
      rw [List.take_length, List.take_of_length_le (by omega)] at h5
      have hc0 : c = 0 ∨ c = 1 := by omega
      rw [trimD_eq h3]
      congr 2
      rcases hc0 with rfl | rfl
      · omega
      · rw [Nat.mul_one] at h5; omega
theorem rmul_carry {s o p c : Nat} (h : s = o + p + c) : s % 4294967296 + 4294967296 * (s / 4294967296) = p + o + c := by omega
theorem rmul_eq {nl' nl P o s M p c c' : Nat} (h1 : nl' + P * o = nl + P * s) (h2 : nl + P * c = M) (h3 : s + 4294967296 * c' = p + o + c) :
    nl' + P * 4294967296 * c' = M + P * p := by
  have : P * s + P * 4294967296 * c' = P * p + P * o + P * c := by rw [Nat.mul_assoc, ← Nat.mul_add, h3, Nat.mul_add, Nat.mul_add]
  omega
theorem rmul_meets (va vb : Value) (x y : List Nat) (hA : Dig x) (hB : Dig y) (la : x.length ≤ 2199023255552) (lb : y.length ≤ 2199023255552) :
    Meets Tryz.prog 132 [va, vb] [(va, U x), (vb, U y)] (fun r os fs => os = [] ∧ fs = [(r, U (digs (dv x * dv y)))]) := by
  refine meets_of_vc Tryz.func132 (by kernel_rfl) rfl (by kernel_rfl) (Nat.le_of_ble_eq_true rfl) ?_
  (repeat (first | (refine len_fact qM fun _ => ?_) | (refine cmp_true rfl (by omega) ?_) | (refine cmp_false rfl (by omega) ?_) | (refine index_fact qM _ rfl (by omega) fun _ => ?_) | (refine load_one qM ?_) | (refine ar rfl qI ?_)))
  refine make_U (x.length + y.length + 1) (by omega) (by omega) (by omega) (by omega) fun vo ho => ?_
  refine loop_rule (X := Nat × List Nat) (fun z => ([(0, va), (1, vb), (5, vo), (6, .int .i64 (z.1 : Nat))], [ownU vo z.2], [(va, U x), (vb, U y)]))
    (fun z => z.1 ≤ x.length ∧ z.2.length = x.length + y.length + 1 ∧ Dig z.2 ∧ dv z.2 = dv (x.take z.1) * dv y ∧ ∀ j, z.1 + y.length ≤ j → z.2.getD j 0 = 0) (fun z => x.length - z.1) rfl ?_ ?_
  · exact again (0, List.replicate (x.length + y.length + 1) 0) ⟨Nat.zero_le _, by simp, Dig.replicate _, by simp [dv_replicate, dv], fun j _ => getD_replicate _ _⟩ trivial qF (Seals.sub qS)
  · rintro ⟨i, l0⟩ ⟨h1, h2, h3, h4, h5⟩
    simp only at h1 h2 h3 h4 h5 ⊢
    refine len_fact qM fun _ => ?_
    refine cmp_split _ rfl (fun hc => ?_) (fun hc => ?_)
    · have hx := hA.get i
      refine loop_rule (X := Nat × List Nat × Nat) (fun z => ([(0, va), (1, vb), (5, vo), (6, .int .i64 (i : Nat)), (7, .int .u64 (z.2.2 : Nat)), (8, .int .i64 (z.1 : Nat))], [ownU vo z.2.1], [(va, U x), (vb, U y)]))
        (fun z => z.1 ≤ y.length ∧ z.2.1.length = x.length + y.length + 1 ∧ Dig z.2.1 ∧ z.2.2 < 4294967296 ∧ dv z.2.1 + 4294967296 ^ (i + z.1) * z.2.2 = dv l0 + 4294967296 ^ i * (x.getD i 0 * dv (y.take z.1)) ∧ ∀ j, i + y.length ≤ j → z.2.1.getD j 0 = 0) (fun z => y.length - z.1) rfl ?_ ?_
      · exact again (0, l0, 0) ⟨Nat.zero_le _, h2, h3, by simp, by simp [dv], h5⟩ trivial qF (Seals.sub qS)
      · rintro ⟨k, l, c⟩ ⟨g1, g2, g3, g4, g5, g6⟩
        simp only at g1 g2 g3 g4 g5 g6 ⊢
        refine len_fact qM fun _ => ?_
        refine cmp_split _ rfl (fun hd => ?_) (fun hd => ?_)
        · refine draw_rule [0, 1, 2, 3, 4, 5, 6, 7, 8, 9, 10, 11, 12, 13, 14, 15, 16, 17, 18] [0, 1, 2, 3, 4, 5, 6, 7, 8, 9, 10, 11, 12, 13, 14, 15, 16, 17, 18] (by kernel_rfl) (by kernel_rfl) ?_
          have hy := hB.get k
          have ho' := g3.get (i + k)
          have hp : x.getD i 0 * y.getD k 0 ≤ 4294967295 * 4294967295 := Nat.mul_le_mul (by omega) (by omega)
          refine ar rfl qI ?_
          refine index_U 0 rfl ho (i + k) rfl (by omega) ?_
          refine load_U 0 rfl (i + k) (by omega) ?_
          refine index_fact qM i rfl (by omega) fun p => ?_
          refine load_one qM ?_
          refine index_fact qM k rfl (by omega) fun p => ?_
          refine load_one qM ?_
          refine ar_wrap rfl ((x.getD i 0 * y.getD k 0 : Nat) : Int) (by rw [← Int.natCast_mul]; exact wrap_in ⟨Int.natCast_nonneg _, by omega⟩) ?_
          have hpe : dv (y.take (k + 1)) = dv (y.take k) + 4294967296 ^ k * y.getD k 0 := dv_take_succ y k
          have hxy : 4294967296 ^ i * (x.getD i 0 * dv (y.take (k + 1))) = 4294967296 ^ i * (x.getD i 0 * dv (y.take k)) + 4294967296 ^ (i + k) * (x.getD i 0 * y.getD k 0) := by
            rw [hpe, Nat.mul_add, Nat.mul_add, Nat.pow_add]
            congr 1
            rw [Nat.mul_assoc]; congr 1; rw [Nat.mul_left_comm]
          generalize x.getD i 0 * y.getD k 0 = q at *
          refine ar rfl qI ?_
          refine ar_wrap rfl ((l.getD (i + k) 0 + q + c : Nat) : Int) (by rw [← Int.natCast_add, ← Int.natCast_add]; exact wrap_in ⟨Int.natCast_nonneg _, by omega⟩) ?_
          have hq := rmul_carry (s := l.getD (i + k) 0 + q + c) (o := l.getD (i + k) 0) (p := q) (c := c) rfl
          generalize l.getD (i + k) 0 + q + c = s at *
          refine ar rfl qI ?_
          refine rem_rule (by omega) (by omega) ?_
          refine index_U 0 rfl ho (i + k) rfl (by omega) ?_
          refine store_U 0 rfl (s % 4294967296) (by omega) (by omega) ?_
          refine quo_rule (by omega) (by omega) qI ?_
          refine ar rfl qI ?_
          refine again (k + 1, l.set (i + k) (s % 4294967296), s / 4294967296)
            ⟨by omega, by simp [g2], g3.set _ (by omega), by simp only; omega, ?_, fun j hj => ?_⟩ (by simp only; omega) qF (Seals.sub qS)
          · simp only
            rw [hxy, show i + (k + 1) = (i + k) + 1 by omega, Nat.pow_succ, ← Nat.add_assoc]
            exact rmul_eq (dv_set (by omega)) g5 hq
          · simp only
            rw [getD_set (by omega), if_neg (by omega)]; exact g6 j hj
        · have hk : k = y.length := by omega
          refine len_fact qM fun _ => ?_
          refine ar rfl qI ?_
          refine len_fact qM fun _ => ?_
          refine ar rfl qI ?_
          refine index_U 0 rfl ho (i + y.length) rfl (by omega) ?_
          refine load_U 0 rfl (i + y.length) (by omega) ?_
          rw [g6 _ (Nat.le_refl _)]
          refine ar rfl qI ?_
          refine index_U 0 rfl ho (i + y.length) rfl (by omega) ?_
          refine store_U 0 rfl c (by omega) (by omega) ?_
          refine ar rfl qI ?_
          refine again (i + 1, l.set (i + y.length) c) ⟨by omega, by simp [g2], g3.set _ g4, ?_, fun j hj => ?_⟩ (by simp only; omega) qF (Seals.sub qS)
          · simp only
            have e1 := dv_set (l := l) (j := i + y.length) (s := c) (by omega)
            rw [g6 _ (Nat.le_refl _)] at e1
            rw [hk, List.take_length] at g5
            rw [dv_take_succ, Nat.add_mul, ← h4, Nat.mul_assoc]
            omega
          · simp only
            rw [getD_set (by omega)]
            split
            · omega
            · exact g6 j (by omega)
    · have hi : i = x.length := by omega
      refine call_fn (rTrim_meets vo l0) (Seals.U 0 rfl ho) qS ?_
      rintro r _ _ ⟨rfl, rfl⟩
      exact fin ⟨rfl, rfl⟩ (Seals.cons ((Knw.fact qM).cast (by rw [trimD_eq h3, h4, hi, List.take_length])) (Seals.nil _ _))
theorem digs_len {a : List Nat} (ha : Lim a) : (digs (nv a)).length ≤ 2 * a.length := by
  have := nv_lt ha
  rw [← pow_two_mul] at this
  exact digs_length_le this
theorem rNorm_meets (v : Value) (a : List Nat) (ha : Lim a) (la : a.length ≤ 1099511627776) :
    Meets Tryz.prog 124 [v] [(v, U a)] (fun r os fs => os = [] ∧ fs = [(r, U (lims (nv a)))]) := by
  refine meets_of_vc Tryz.func124 (by kernel_rfl) rfl (by kernel_rfl) (Nat.le_of_ble_eq_true rfl) ?_
  refine call_fn (digits_meets v a ha la) (Seals.refl _ _) qS ?_
  rintro x _ _ ⟨rfl, rfl⟩
  have := digs_len ha
  refine call_fn (limbs_meets x (digs (nv a)) (Dig_digs _) (by omega)) (Seals.refl _ _) qS ?_
  rintro r _ _ ⟨rfl, rfl⟩
  rw [dv_digs]
  exact fin ⟨rfl, rfl⟩ (Seals.sub qS)
theorem rAdd_meets (va vb : Value) (a b : List Nat) (ha : Lim a) (hb : Lim b) (la : a.length ≤ 274877906944) (lb : b.length ≤ 274877906944) :
    Meets Tryz.prog 85 [va, vb] [(va, U a), (vb, U b)] (fun r os fs => os = [] ∧ fs = [(r, U (lims (nv a + nv b)))]) := by
  refine meets_of_vc Tryz.func85 (by kernel_rfl) rfl (by kernel_rfl) (Nat.le_of_ble_eq_true rfl) ?_
  refine call_fn (digits_meets va a ha (by omega)) (Seals.refl _ _) qS ?_
  rintro x _ _ ⟨rfl, rfl⟩
  refine call_fn (digits_meets vb b hb (by omega)) (Seals.refl _ _) qS ?_
  rintro y _ _ ⟨rfl, rfl⟩
  have h1 := digs_len ha
  have h2 := digs_len hb
  refine call_fn (radd_meets x y (digs (nv a)) (digs (nv b)) (Dig_digs _) (Dig_digs _) (by omega) (by omega)) (Seals.refl _ _) qS ?_
  rintro z _ _ ⟨rfl, m, rfl, hm, hv, hl⟩
  rw [dv_digs, dv_digs] at hv
  refine call_fn (limbs_meets z m hm (by omega)) (Seals.refl _ _) qS ?_
  rintro r _ _ ⟨rfl, rfl⟩
  rw [hv]
  exact fin ⟨rfl, rfl⟩ (Seals.sub qS)
theorem rMul_meets (va vb : Value) (a b : List Nat) (ha : Lim a) (hb : Lim b) (la : a.length ≤ 274877906944) (lb : b.length ≤ 274877906944) :
    Meets Tryz.prog 88 [va, vb] [(va, U a), (vb, U b)] (fun r os fs => os = [] ∧ fs = [(r, U (lims (nv a * nv b)))]) := by
  refine meets_of_vc Tryz.func88 (by kernel_rfl) rfl (by kernel_rfl) (Nat.le_of_ble_eq_true rfl) ?_
  refine call_fn (digits_meets va a ha (by omega)) (Seals.refl _ _) qS ?_
  rintro x _ _ ⟨rfl, rfl⟩
  refine call_fn (digits_meets vb b hb (by omega)) (Seals.refl _ _) qS ?_
  rintro y _ _ ⟨rfl, rfl⟩
  have h1 := digs_len ha
  have h2 := digs_len hb
  refine call_fn (rmul_meets x y (digs (nv a)) (digs (nv b)) (Dig_digs _) (Dig_digs _) (by omega) (by omega)) (Seals.refl _ _) qS ?_
  rintro z _ _ ⟨rfl, rfl⟩
  rw [dv_digs, dv_digs]
  have h3 : (digs (nv a * nv b)).length ≤ 2 * a.length + 2 * b.length := by
    refine digs_length_le ?_
    rw [Nat.pow_add, pow_two_mul, pow_two_mul]
    exact Nat.mul_lt_mul'' (nv_lt ha) (nv_lt hb)
  refine call_fn (limbs_meets z (digs (nv a * nv b)) (Dig_digs _) (by omega)) (Seals.refl _ _) qS ?_
  rintro r _ _ ⟨rfl, rfl⟩
  rw [dv_digs]
  exact fin ⟨rfl, rfl⟩ (Seals.sub qS)
theorem rSub_meets (va vb : Value) (a b : List Nat) (ha : Lim a) (hb : Lim b) (la : a.length ≤ 274877906944) (lb : b.length ≤ 274877906944) :
    Meets Tryz.prog 86 [va, vb] [(va, U a), (vb, U b)] (fun r os fs => os = [] ∧ ((nv a < nv b ∧ fs = [] ∧ r = .tuple #[.slice none 0 0, .bool false]) ∨
      (nv b ≤ nv a ∧ ∃ s, r = .tuple #[s, .bool true] ∧ fs = [(s, U (lims (nv a - nv b)))]))) := by
  refine meets_of_vc Tryz.func86 (by kernel_rfl) rfl (by kernel_rfl) (Nat.le_of_ble_eq_true rfl) ?_
  refine call_fn (digits_meets va a ha (by omega)) (Seals.refl _ _) qS ?_
  rintro x _ _ ⟨rfl, rfl⟩
  refine call_fn (digits_meets vb b hb (by omega)) (Seals.refl _ _) qS ?_
  rintro y _ _ ⟨rfl, rfl⟩
  have h1 := digs_len ha
  refine call_fn (cmpDigits_meets x y (nv a) (nv b)) (Seals.refl _ _) qS ?_
  rintro _ _ _ ⟨rfl, rfl, rfl⟩
  refine cmp_split _ rfl (fun hc => ?_) (fun hc => ?_)
  · have : nv a < nv b := by unfold cmpN at hc; split at hc <;> first | assumption | (split at hc <;> omega)
    exact fin ⟨rfl, .inl ⟨this, rfl, rfl⟩⟩ (Seals.nil _ _)
  · have hle : nv b ≤ nv a := by unfold cmpN at hc; split at hc <;> omega
    refine call_fn (rsub_meets x y (digs (nv a)) (digs (nv b)) (Dig_digs _) (Dig_digs _) (by omega) (digs_len_mono hle) (by rw [dv_digs, dv_digs]; exact hle)) (Seals.refl _ _) qS ?_
    rintro z _ _ ⟨rfl, rfl⟩
    rw [dv_digs, dv_digs]
    have h3 : (digs (nv a - nv b)).length ≤ (digs (nv a)).length := digs_len_mono (Nat.sub_le _ _)
    refine call_fn (limbs_meets z (digs (nv a - nv b)) (Dig_digs _) (by omega)) (Seals.refl _ _) qS ?_
    rintro r _ _ ⟨rfl, rfl⟩
    rw [dv_digs]
    exact fin ⟨rfl, .inr ⟨hle, r, rfl, rfl⟩⟩ (Seals.sub qS)
open Go.RowKit
def tabOK (s : ByteArray) : Bool := (List.range 256).all fun y => match s[y]? with
  | some b => decide (y < 2 ^ b.toNat) && (b.toNat == 0 || decide (2 ^ (b.toNat - 1) ≤ y)) && decide (b.toNat ≤ 8)
  | none => false
theorem index_tab {P : Program} {t : TypeId} {s : ByteArray} {z : Int} {os : List Own} {fs : List Fact} {K : Cont} (ht : P.underlying t = some .string) (hs : tabOK s = true) (y : Nat) (hz : z = (y : Int)) (hy : y < 256)
    (k : ∀ b : Nat, y < 2 ^ b → (b = 0 ∨ 2 ^ (b - 1) ≤ y) → b ≤ 8 → K (.int .u8 (b : Int)) os fs) : IndexK P t (.string s) (.int .u8 z) os fs K := by
  subst hz
  have h := List.all_eq_true.1 hs y (by simpa using hy)
  cases hb : s[y]? with
  | none => simp [hb] at h
  | some b =>
    simp only [hb, Bool.and_eq_true, Bool.or_eq_true, decide_eq_true_eq, beq_iff_eq] at h
    refine ⟨det_pure (.int .u8 ((b.toNat : Nat) : Int)) (fun w => ?_) (k b.toNat h.1.1 h.1.2 h.2)⟩
    have h0 : (0 : Int) ≤ (y : Int) := by omega
    simp [Instr.index, asIntOf, run_underlying ht, h0, hb]
def IsLen (x k : Nat) : Prop := x < 2 ^ k ∧ (k = 0 ∨ 2 ^ (k - 1) ≤ x) ∧ k ≤ 64
theorem isLen_of {x n b : Nat} (h1 : x / 2 ^ n < 2 ^ b) (h2 : b = 0 ∨ 2 ^ (b - 1) ≤ x / 2 ^ n) (h3 : n + b ≤ 64) (h4 : b = 0 → n = 0) : IsLen x (n + b) := by
  have hp : 0 < 2 ^ n := Nat.pow_pos (by decide)
  refine ⟨?_, ?_, h3⟩
  · rw [Nat.pow_add]
    rw [Nat.div_lt_iff_lt_mul hp] at h1
    rwa [Nat.mul_comm] at h1
  · rcases h2 with h2 | h2
    · left; have := h4 h2; omega
    · by_cases hb : b = 0
      · left; have := h4 hb; omega
      · right
        rw [show n + b - 1 = (b - 1) + n by omega, Nat.pow_add]
        exact (Nat.le_div_iff_mul_le hp).1 h2
theorem len64_meets (x : Nat) (hx : x < 18446744073709551616) :
    Meets Tryz.prog 136 [.int .u64 (x : Int)] [] (fun r os fs => os = [] ∧ fs = [] ∧ ∃ k, r = .int .i64 (k : Nat) ∧ IsLen x k) := by
  refine meets_of_vc Tryz.func136 (by kernel_rfl) rfl (by kernel_rfl) (Nat.le_of_ble_eq_true rfl) ?_
  refine cmp_split _ rfl (fun h1 => ?_) (fun h1 => ?_)
  · refine shr_rule x 32 4294967296 rfl rfl rfl (by decide) ?_
    refine cmp_split _ rfl (fun h2 => ?_) (fun h2 => ?_)
    · refine shr_rule (x / 4294967296) 16 65536 rfl rfl rfl (by decide) ?_
      refine ar rfl qI ?_
      refine cmp_split _ rfl (fun h3 => ?_) (fun h3 => ?_)
      · refine shr_rule (x / 4294967296 / 65536) 8 256 rfl rfl rfl (by decide) ?_
        refine ar rfl qI ?_
        refine conv_int ⟨_, Tryz.underlying122⟩ Tryz.underlying5 ((x / 4294967296 / 65536 / 256 : Nat) : Int) (wrap_in ⟨by omega, by omega⟩) ?_
        refine index_tab Tryz.underlying9 (by kernel_rfl) _ rfl (by omega) fun b b1 b2 b3 => ?_
        refine conv_int ⟨_, Tryz.underlying5⟩ Tryz.underlying3 (b : Int) (wrap_in ⟨by omega, by omega⟩) ?_
        refine ar rfl qI ?_
        refine fin ⟨rfl, rfl, 56 + b, rfl, ?_⟩ (Seals.nil _ _)
        have e : x / 4294967296 / 65536 / 256 = x / 2 ^ 56 := by rw [Nat.div_div_eq_div_mul, Nat.div_div_eq_div_mul]
        rw [e] at b1 b2
        refine isLen_of b1 b2 (by omega) fun hb => ?_
        subst hb
        rw [← e] at b1
        omega
      · refine conv_int ⟨_, Tryz.underlying122⟩ Tryz.underlying5 ((x / 4294967296 / 65536 : Nat) : Int) (wrap_in ⟨by omega, by omega⟩) ?_
        refine index_tab Tryz.underlying9 (by kernel_rfl) _ rfl (by omega) fun b b1 b2 b3 => ?_
        refine conv_int ⟨_, Tryz.underlying5⟩ Tryz.underlying3 (b : Int) (wrap_in ⟨by omega, by omega⟩) ?_
        refine ar rfl qI ?_
        refine fin ⟨rfl, rfl, 48 + b, rfl, ?_⟩ (Seals.nil _ _)
        have e : x / 4294967296 / 65536 = x / 2 ^ 48 := by rw [Nat.div_div_eq_div_mul]
        rw [e] at b1 b2
        refine isLen_of b1 b2 (by omega) fun hb => ?_
        subst hb
        rw [← e] at b1
        omega
    · refine cmp_split _ rfl (fun h3 => ?_) (fun h3 => ?_)
      · refine shr_rule (x / 4294967296) 8 256 rfl rfl rfl (by decide) ?_
        refine ar rfl qI ?_
        refine conv_int ⟨_, Tryz.underlying122⟩ Tryz.underlying5 ((x / 4294967296 / 256 : Nat) : Int) (wrap_in ⟨by omega, by omega⟩) ?_
        refine index_tab Tryz.underlying9 (by kernel_rfl) _ rfl (by omega) fun b b1 b2 b3 => ?_
        refine conv_int ⟨_, Tryz.underlying5⟩ Tryz.underlying3 (b : Int) (wrap_in ⟨by omega, by omega⟩) ?_
        refine ar rfl qI ?_
        refine fin ⟨rfl, rfl, 40 + b, rfl, ?_⟩ (Seals.nil _ _)
        have e : x / 4294967296 / 256 = x / 2 ^ 40 := by rw [Nat.div_div_eq_div_mul]
        rw [e] at b1 b2
        refine isLen_of b1 b2 (by omega) fun hb => ?_
        subst hb
        rw [← e] at b1
        omega
      · refine conv_int ⟨_, Tryz.underlying122⟩ Tryz.underlying5 ((x / 4294967296 : Nat) : Int) (wrap_in ⟨by omega, by omega⟩) ?_
        refine index_tab Tryz.underlying9 (by kernel_rfl) _ rfl (by omega) fun b b1 b2 b3 => ?_
        refine conv_int ⟨_, Tryz.underlying5⟩ Tryz.underlying3 (b : Int) (wrap_in ⟨by omega, by omega⟩) ?_
        refine ar rfl qI ?_
        refine fin ⟨rfl, rfl, 32 + b, rfl, ?_⟩ (Seals.nil _ _)
        refine isLen_of (n := 32) b1 b2 (by omega) fun hb => ?_
        subst hb
        omega
  · refine cmp_split _ rfl (fun h2 => ?_) (fun h2 => ?_)
    · refine shr_rule x 16 65536 rfl rfl rfl (by decide) ?_
      refine ar rfl qI ?_
      refine cmp_split _ rfl (fun h3 => ?_) (fun h3 => ?_)
      · refine shr_rule (x / 65536) 8 256 rfl rfl rfl (by decide) ?_
        refine ar rfl qI ?_
        refine conv_int ⟨_, Tryz.underlying122⟩ Tryz.underlying5 ((x / 65536 / 256 : Nat) : Int) (wrap_in ⟨by omega, by omega⟩) ?_
        refine index_tab Tryz.underlying9 (by kernel_rfl) _ rfl (by omega) fun b b1 b2 b3 => ?_
        refine conv_int ⟨_, Tryz.underlying5⟩ Tryz.underlying3 (b : Int) (wrap_in ⟨by omega, by omega⟩) ?_
        refine ar rfl qI ?_
        refine fin ⟨rfl, rfl, 24 + b, by simp [tup], ?_⟩ (Seals.nil _ _)
        have e : x / 65536 / 256 = x / 2 ^ 24 := by rw [Nat.div_div_eq_div_mul]
        rw [e] at b1 b2
        refine isLen_of b1 b2 (by omega) fun hb => ?_
        subst hb
        rw [← e] at b1
        omega
      · refine conv_int ⟨_, Tryz.underlying122⟩ Tryz.underlying5 ((x / 65536 : Nat) : Int) (wrap_in ⟨by omega, by omega⟩) ?_
        refine index_tab Tryz.underlying9 (by kernel_rfl) _ rfl (by omega) fun b b1 b2 b3 => ?_
        refine conv_int ⟨_, Tryz.underlying5⟩ Tryz.underlying3 (b : Int) (wrap_in ⟨by omega, by omega⟩) ?_
        refine ar rfl qI ?_
        refine fin ⟨rfl, rfl, 16 + b, by simp [tup], ?_⟩ (Seals.nil _ _)
        refine isLen_of (n := 16) b1 b2 (by omega) fun hb => ?_
        subst hb
        omega
    · refine cmp_split _ rfl (fun h3 => ?_) (fun h3 => ?_)
      · refine shr_rule x 8 256 rfl rfl rfl (by decide) ?_
        refine ar rfl qI ?_
        refine conv_int ⟨_, Tryz.underlying122⟩ Tryz.underlying5 ((x / 256 : Nat) : Int) (wrap_in ⟨by omega, by omega⟩) ?_
        refine index_tab Tryz.underlying9 (by kernel_rfl) _ rfl (by omega) fun b b1 b2 b3 => ?_
        refine conv_int ⟨_, Tryz.underlying5⟩ Tryz.underlying3 (b : Int) (wrap_in ⟨by omega, by omega⟩) ?_
        refine ar rfl qI ?_
        refine fin ⟨rfl, rfl, 8 + b, by simp [tup], ?_⟩ (Seals.nil _ _)
        refine isLen_of (n := 8) b1 b2 (by omega) fun hb => ?_
        subst hb
        omega
      · refine conv_int ⟨_, Tryz.underlying122⟩ Tryz.underlying5 ((x : Nat) : Int) (wrap_in ⟨by omega, by omega⟩) ?_
        refine index_tab Tryz.underlying9 (by kernel_rfl) _ rfl (by omega) fun b b1 b2 b3 => ?_
        refine conv_int ⟨_, Tryz.underlying5⟩ Tryz.underlying3 (b : Int) (wrap_in ⟨by omega, by omega⟩) ?_
        refine ar rfl qI ?_
        refine fin ⟨rfl, rfl, 0 + b, by simp [tup], ?_⟩ (Seals.nil _ _)
        exact isLen_of (n := 0) (by simpa using b1) (by simpa using b2) (by omega) fun _ => rfl
theorem lz64_meets (x : Nat) (hx : x < 18446744073709551616) :
    Meets Tryz.prog 177 [.int .u64 (x : Int)] [] (fun r os fs => os = [] ∧ fs = [] ∧ ∃ k, r = .int .i64 ((64 - k : Nat) : Int) ∧ IsLen x k) := by
  refine meets_of_vc Tryz.func177 (by kernel_rfl) rfl (by kernel_rfl) (Nat.le_of_ble_eq_true rfl) ?_
  refine call_fn (len64_meets x hx) (Seals.refl _ _) qS ?_
  rintro _ _ _ ⟨rfl, rfl, k, rfl, hk⟩
  have := hk.2.2
  refine ar rfl qI ?_
  exact fin ⟨rfl, rfl, k, by simp only [tup, List.nil_append]; congr 1; omega, hk⟩ (Seals.nil _ _)
def bitlen (n : Nat) : Nat := if n = 0 then 0 else n.log2 + 1
theorem isLen_bitlen {x k : Nat} (h : IsLen x k) : k = bitlen x := by
  obtain ⟨h1, h2, _⟩ := h
  unfold bitlen
  split
  · rename_i h0; subst h0
    rcases h2 with h2 | h2
    · exact h2
    · have := Nat.pow_pos (n := k - 1) (show 0 < 2 by decide); omega
  · rename_i h0
    rcases h2 with h2 | h2
    · subst h2; simp at h1; omega
    · have hk : k ≠ 0 := fun e => by subst e; simp at h1; omega
      have a := (Nat.le_log2 h0).2 h2
      have b := (Nat.log2_lt h0).2 h1
      omega
theorem bitlen_lims {l : List Nat} {x : Nat} (hl : Lim l) (hx : x ≠ 0) : bitlen (nv (l ++ [x])) = 64 * l.length + bitlen x := by
  have h1 := nv_lt hl
  have hp : 0 < 18446744073709551616 ^ l.length := Nat.pow_pos (by decide)
  have hv : nv (l ++ [x]) = nv l + 18446744073709551616 ^ l.length * x := by rw [nv_append]; simp [nv]
  have h2 : 18446744073709551616 ^ l.length = 2 ^ (64 * l.length) := by rw [Nat.pow_mul]
  have hne : nv (l ++ [x]) ≠ 0 := by
    have : 0 < 18446744073709551616 ^ l.length * x := Nat.mul_pos hp (by omega)
    omega
  have hlo : 2 ^ (x.log2) ≤ x := Nat.log2_self_le hx
  have hhi : x < 2 ^ (x.log2 + 1) := Nat.lt_log2_self
  unfold bitlen
  rw [if_neg hne, if_neg hx]
  have a : 64 * l.length + x.log2 ≤ (nv (l ++ [x])).log2 := by
    rw [Nat.le_log2 hne, Nat.pow_add, ← h2, hv]
    have := Nat.mul_le_mul_left (18446744073709551616 ^ l.length) hlo
    omega
  have b : (nv (l ++ [x])).log2 < 64 * l.length + (x.log2 + 1) := by
    rw [Nat.log2_lt hne, Nat.pow_add, ← h2, hv]
    have : 18446744073709551616 ^ l.length * (x + 1) ≤ 18446744073709551616 ^ l.length * 2 ^ (x.log2 + 1) := Nat.mul_le_mul_left _ hhi
    rw [Nat.mul_add] at this
    omega
  omega
theorem bitlen_meets (v : Value) (a : List Nat) (ha : Lim a) (la : a.length ≤ 1099511627776) :
    Meets Tryz.prog 93 [v] [(v, U a)] (fun r os fs => os = [] ∧ fs = [] ∧ r = .int .i64 (bitlen (nv a) : Nat)) := by
  refine meets_of_vc Tryz.func93 (by kernel_rfl) rfl (by kernel_rfl) (Nat.le_of_ble_eq_true rfl) ?_
  refine call_fn (trim_meets v a) (Seals.refl _ _) qS ?_
  rintro v' _ _ ⟨rfl, rfl⟩
  rw [trimL_eq ha]
  have hla := trimmed_len ha
  refine len_fact qM fun _ => ?_
  refine cmp_split _ rfl (fun hc => ?_) (fun hc => ?_)
  · refine fin ⟨rfl, rfl, ?_⟩ (Seals.nil _ _)
    have : nv a = 0 := lims_eq_nil.1 (List.eq_nil_of_length_eq_zero (by omega))
    simp [this, bitlen, tup]
  · have hne : nv a ≠ 0 := fun h => by rw [h, lims_zero] at hc; simp at hc
    obtain ⟨l, x, h1, h2, h3⟩ := lims_top hne
    have hll : Lim l := by have := Lim_lims (nv a); rw [h1] at this; exact fun y hy => this y (by simp [hy])
    have hlen : (lims (nv a)).length = l.length + 1 := by rw [h1]; simp
    have hget : (lims (nv a)).getD l.length 0 = x := by rw [h1]; simp [List.getD_eq_getElem?_getD]
    refine len_fact qM fun _ => ?_
    refine ar rfl qI ?_
    refine ar rfl qI ?_
    refine len_fact qM fun _ => ?_
    refine ar rfl qI ?_
    refine index_fact qM l.length (by omega) (by omega) fun p => ?_
    refine load_one qM ?_
    rw [hget]
    refine call_fn (len64_meets x h3) (Seals.refl _ _) qS ?_
    rintro _ _ _ ⟨rfl, rfl, k, rfl, hk⟩
    have := hk.2.2
    refine ar rfl qI ?_
    refine fin ⟨rfl, rfl, ?_⟩ (Seals.nil _ _)
    have hb := bitlen_lims hll h2
    rw [← h1, nv_lims] at hb
    rw [hb, ← isLen_bitlen hk, hlen]
    simp only [tup, List.nil_append]; congr 1; omega
open Go.RowKit
theorem shl_rule {P : Program} {t : TypeId} {x y : Operand} {k' : IntKind} {z s : Int} (a n : Nat) {os : List Own} {fs : List Fact} {K : Cont} (hz : z = (a : Int)) (hs : s = (n : Int)) (hn : n ≤ 64)
    (h1 : K (.int .u64 ((a * 2 ^ n % 18446744073709551616 : Nat) : Int)) os fs) : BinK P .shl t x y (.int .u64 z) (.int k' s) os fs K := by
  subst hs hz
  refine ⟨det_pure _ (fun w => ?_) h1⟩
  have h0 : ¬ ((n : Int) < 0) := by omega
  have hb : min n IntKind.u64.bits = n := Nat.min_eq_left hn
  have h2 : IntKind.u64.wrap ((a : Int) * 2 ^ n) = ((a * 2 ^ n % 18446744073709551616 : Nat) : Int) := by
    have : (a : Int) * 2 ^ n = ((a * 2 ^ n : Nat) : Int) := by simp
    rw [this]
    generalize a * 2 ^ n = q
    simp [IntKind.wrap, IntKind.bits, IntKind.signed]
  simp [eqGuard, binOp, Op.shift, h0, hb, h2]
theorem or_rule {P : Program} {t : TypeId} {x y : Operand} {z u : Int} (a b : Nat) {os : List Own} {fs : List Fact} {K : Cont} (hz : z = (a : Int)) (hu : u = (b : Int)) (ha : a < 18446744073709551616) (hb : b < 18446744073709551616)
    (h1 : K (.int .u64 ((a ||| b : Nat) : Int)) os fs) : BinK P .or t x y (.int .u64 z) (.int .u64 u) os fs K := by
  subst hz hu
  refine ⟨det_pure _ (fun w => ?_) h1⟩
  have hlt : a ||| b < 2 ^ 64 := Nat.or_lt_two_pow ha hb
  have hb' : (BitVec.ofInt 64 (a : Int) ||| BitVec.ofInt 64 (b : Int)).toNat = a ||| b := by
    rw [BitVec.toNat_or]
    have e1 : (BitVec.ofInt 64 (a : Int)).toNat = a := by rw [BitVec.toNat_ofInt]; omega
    have e2 : (BitVec.ofInt 64 (b : Int)).toNat = b := by rw [BitVec.toNat_ofInt]; omega
    rw [e1, e2]
  have hd : ∀ X Y : BitVec 64, (X ||| Y).toNat = a ||| b → IntKind.u64.wrap ((X ||| Y).toNat : Int) = ((a ||| b : Nat) : Int) := fun X Y h => by
    rw [h]; exact wrap_in ⟨Int.natCast_nonneg _, by omega⟩
  simp only [eqGuard, binOp, Op.intBits, Sem.run_bind, Sem.run_pure, Result.andThen_ok, IntKind.bits, ne_eq, not_true, if_false]
  exact congrArg (fun n => Result.ok (Value.int .u64 n) w) (hd _ _ hb')
theorem pow_split {s : Nat} (h : s ≤ 64) : 2 ^ s * 2 ^ (64 - s) = 18446744073709551616 := by
  rw [← Nat.pow_add, show s + (64 - s) = 64 by omega]
theorem shl_low {x s : Nat} (h : s ≤ 64) : x * 2 ^ s % 18446744073709551616 = 2 ^ s * (x % 2 ^ (64 - s)) := by
  rw [← pow_split h, Nat.mul_comm x, Nat.mul_mod_mul_left]
theorem shl_high {x s : Nat} (h : s ≤ 64) : x * 2 ^ s / 18446744073709551616 = x / 2 ^ (64 - s) := by
  rw [← pow_split h, Nat.mul_comm x, Nat.mul_div_mul_left _ _ (Nat.pow_pos (by decide))]
def far (n : Int) : Nat := (max 0 (min n 8192)).toNat
theorem shl_or {o x s : Nat} (hs : s ≤ 64) (ho : o < 2 ^ s) : o ||| (x * 2 ^ s % 18446744073709551616) = o + x * 2 ^ s % 18446744073709551616 := by
  rw [shl_low hs, Nat.or_comm, ← Nat.two_pow_add_eq_or_of_lt ho, Nat.add_comm]
theorem shl_lt {x s : Nat} (hs : s < 64) (hx : x < 18446744073709551616) : x / 2 ^ (64 - s) < 2 ^ s := by
  rw [Nat.div_lt_iff_lt_mul (Nat.pow_pos (by decide)), pow_split (by omega)]; exact hx
theorem shl_eq {N P q D o s1 n1 n2 : Nat} (h1 : n1 + P * o = N + P * (o + q % 18446744073709551616)) (h2 : n2 + P * 18446744073709551616 * 0 = n1 + P * 18446744073709551616 * s1) (hs : s1 = q / 18446744073709551616) (hD : D = P * q) :
    n2 = N + D := by
  have := Nat.mod_add_div q 18446744073709551616
  subst hs hD
  rw [Nat.mul_add] at h1
  have e : P * q = P * (q % 18446744073709551616) + P * 18446744073709551616 * (q / 18446744073709551616) := by
    rw [Nat.mul_assoc, ← Nat.mul_add, this]
  omega
theorem shl_meets (v : Value) (a : List Nat) (n : Int) (ha : Lim a) (la : a.length ≤ 1099511627776) :
    Meets Tryz.prog 152 [v, .int .i64 n] [(v, U a)] (fun r os fs => os = [] ∧ fs = [(r, U (lims (nv a * 2 ^ far n)))]) := by
  refine meets_of_vc Tryz.func152 (by kernel_rfl) rfl (by kernel_rfl) (Nat.le_of_ble_eq_true rfl) ?_
  refine call_fn (trim_meets v a) (Seals.refl _ _) qS ?_
  rintro v' _ _ ⟨rfl, rfl⟩
  rw [trimL_eq ha]
  have hla := trimmed_len ha
  have hA := Lim_lims (nv a)
  have eA := nv_lims (nv a)
  generalize lims (nv a) = x at *
  refine min2_rule ?_
  refine max2_rule ?_
  have hK : max 0 (min n 8192) = (far n : Int) := by unfold far; omega
  have hK2 : far n ≤ 8192 := by unfold far; omega
  rw [hK]
  generalize far n = K at *
  refine shr_rule K 6 64 rfl rfl rfl (by decide) ?_
  refine conv_int ⟨_, Tryz.underlying3⟩ Tryz.underlying162 (K : Int) (wrap_in ⟨by omega, by omega⟩) ?_
  refine and_rule K 6 64 rfl rfl rfl (by omega) (by decide) ?_
  have hr : K % 64 < 64 := Nat.mod_lt _ (by decide)
  have hKe : 64 * (K / 64) + K % 64 = K := Nat.div_add_mod K 64
  have hpow : 2 ^ K = 18446744073709551616 ^ (K / 64) * 2 ^ (K % 64) := by rw [show (18446744073709551616 : Nat) = 2 ^ 64 from rfl, ← Nat.pow_mul, ← Nat.pow_add, hKe]
  have hwd : K / 64 ≤ 128 := by omega
  generalize K / 64 = wd at *
  generalize K % 64 = s at *
  refine len_fact qM fun _ => ?_
  refine ar rfl qI ?_
  refine ar rfl qI ?_
  refine make_U (x.length + wd + 1) (by omega) (by omega) (by omega) (by omega) fun vo ho => ?_
  refine len_fact qM fun _ => ?_
  refine loop_rule (X := Nat × List Nat) (fun z => ([(5, .int .i64 (wd : Nat)), (6, .int .u64 (s : Nat)), (7, vo), (26, v'), (27, .int .i64 (x.length : Nat)), (28, .int .i64 (z.1 : Nat))], [ownU vo z.2], [(v', U x)]))
    (fun z => z.1 ≤ x.length ∧ z.2.length = x.length + wd + 1 ∧ Lim z.2 ∧ nv z.2 = nv (x.take z.1) * 2 ^ K ∧ z.2.getD (z.1 + wd) 0 < 2 ^ s ∧ ∀ j, z.1 + wd < j → z.2.getD j 0 = 0) (fun z => x.length - z.1) rfl ?_ ?_
  · exact again (0, List.replicate (x.length + wd + 1) 0) ⟨Nat.zero_le _, by simp, Lim.replicate _, by simp [nv_replicate, nv], by simp only [getD_replicate]; exact Nat.pow_pos (by decide), fun j _ => getD_replicate _ _⟩ trivial qF (Seals.sub qS)
  · rintro ⟨i, l⟩ ⟨h1, h2, h3, h4, h5, h6⟩
    simp only at h1 h2 h3 h4 h5 h6 ⊢
    refine cmp_split _ rfl (fun hc => ?_) (fun hc => ?_)
    · have hx := hA.get i
      refine index_fact qM i rfl (by omega) fun p => ?_
      refine load_one qM ?_
      refine ar rfl qI ?_
      refine index_U 0 rfl ho (i + wd) rfl (by omega) ?_
      refine load_U 0 rfl (i + wd) (by omega) ?_
      refine shl_rule (x.getD i 0) s rfl rfl (by omega) ?_
      refine or_rule _ _ rfl rfl (h3.get _) (Nat.mod_lt _ (by decide)) ?_
      rw [shl_or (by omega) h5]
      have hsum : l.getD (i + wd) 0 + x.getD i 0 * 2 ^ s % 18446744073709551616 < 18446744073709551616 := by
        rw [← shl_or (by omega) h5]
        exact Nat.or_lt_two_pow (n := 64) (h3.get _) (Nat.mod_lt _ (by decide))
      refine index_U 0 rfl ho (i + wd) rfl (by omega) ?_
      refine store_U 0 rfl _ rfl (by omega) ?_
      have hval : nv (x.take (i + 1)) * 2 ^ K = nv (x.take i) * 2 ^ K + 18446744073709551616 ^ (i + wd) * (x.getD i 0 * 2 ^ s) := by
        rw [nv_take_succ, Nat.add_mul, hpow, Nat.pow_add]
        congr 1
        generalize 18446744073709551616 ^ i = A1
        generalize 18446744073709551616 ^ wd = A2
        generalize x.getD i 0 = A3
        generalize 2 ^ s = A4
        rw [Nat.mul_assoc, Nat.mul_assoc]; congr 1; rw [Nat.mul_left_comm]
      have e1 := nv_set (l := l) (j := i + wd) (s := l.getD (i + wd) 0 + x.getD i 0 * 2 ^ s % 18446744073709551616) (by omega)
      refine cmp_split _ rfl (fun hd => ?_) (fun hd => ?_)
      · refine ar rfl qI ?_
        refine ar rfl qI ?_
        refine ar rfl qI ?_
        refine shr_rule (x.getD i 0) (64 - s) (2 ^ (64 - s)) rfl (by omega) rfl (by simp [IntKind.bits]) ?_
        refine index_U 0 rfl ho (i + wd + 1) rfl (by simp; omega) ?_
        refine store_U 0 rfl _ rfl (by simp; omega) ?_
        refine ar rfl qI ?_
        have hlt := shl_lt (x := x.getD i 0) (s := s) (by omega) hx
        have e2 := nv_set (l := l.set (i + wd) (l.getD (i + wd) 0 + x.getD i 0 * 2 ^ s % 18446744073709551616)) (j := i + wd + 1) (s := x.getD i 0 / 2 ^ (64 - s)) (by simp; omega)
        rw [getD_set (by omega), if_neg (by omega), h6 (i + wd + 1) (by omega), Nat.pow_succ] at e2
        refine again (i + 1, (l.set (i + wd) (l.getD (i + wd) 0 + x.getD i 0 * 2 ^ s % 18446744073709551616)).set (i + wd + 1) (x.getD i 0 / 2 ^ (64 - s))) ⟨by omega, by simp [h2], (h3.set _ hsum).set _ (by
          have : x.getD i 0 / 2 ^ (64 - s) ≤ x.getD i 0 := Nat.div_le_self _ _
          omega), ?_, ?_, fun j hj => ?_⟩ (by simp only; omega) qF (Seals.sub qS)
        · simp only
          rw [hval, ← h4]
          exact shl_eq e1 e2 (shl_high (by omega)).symm rfl
        · simp only
          rw [show i + 1 + wd = i + wd + 1 by omega, getD_set (by simp; omega), if_pos rfl]; exact hlt
        · simp only
          rw [getD_set (by simp; omega), if_neg (by omega), getD_set (by omega), if_neg (by omega)]; exact h6 j (by omega)
      · have hs0 : s = 0 := by omega
        subst hs0
        refine ar rfl qI ?_
        refine again (i + 1, l.set (i + wd) (l.getD (i + wd) 0 + x.getD i 0 * 2 ^ 0 % 18446744073709551616)) ⟨by omega, by simp [h2], h3.set _ hsum, ?_, ?_, fun j hj => ?_⟩ (by simp only; omega) qF (Seals.sub qS)
        · simp only
          rw [hval, ← h4]
          rw [Nat.mul_add] at e1
          rw [Nat.pow_zero, Nat.mul_one] at e1 ⊢
          rw [Nat.mod_eq_of_lt hx] at e1 ⊢
          omega
        · simp only
          rw [getD_set (by omega), if_neg (by omega), h6 _ (by omega)]; decide
        · simp only
          rw [getD_set (by omega), if_neg (by omega)]; exact h6 j (by omega)
    · have hi : i = x.length := by omega
      refine call_fn (trim_meets vo l) (Seals.U 0 rfl ho) qS ?_
      rintro r _ _ ⟨rfl, rfl⟩
      exact fin ⟨rfl, rfl⟩ (Seals.cons ((Knw.fact qM).cast (by rw [trimL_eq h3, h4, hi, List.take_length, eA])) (Seals.nil _ _))
theorem nv_drop (l : List Nat) (k : Nat) (h : Lim l) : nv (l.drop k) = nv l / 18446744073709551616 ^ k := by
  have h1 : nv l = nv (l.take k) + 18446744073709551616 ^ k * nv (l.drop k) := by
    by_cases hk : k ≤ l.length
    · have := nv_append (l.take k) (l.drop k)
      rw [List.take_append_drop] at this
      have hl : (l.take k).length = k := by simp; omega
      rw [hl] at this
      exact this
    · rw [List.take_of_length_le (by omega), List.drop_eq_nil_of_le (by omega)]; simp [nv]
  have h2 : nv (l.take k) < 18446744073709551616 ^ k := by
    refine Nat.lt_of_lt_of_le (nv_lt (h.take k)) (Nat.pow_le_pow_right (by decide) ?_)
    simp; omega
  rw [h1, Nat.add_mul_div_left _ _ (Nat.pow_pos (by decide)), Nat.div_eq_of_lt h2, Nat.zero_add]
theorem shr_or {c d s : Nat} (hs : s < 64) (hc : c < 18446744073709551616) : c / 2 ^ s ||| (d * 2 ^ (64 - s) % 18446744073709551616) = c / 2 ^ s + 2 ^ (64 - s) * (d % 2 ^ s) := by
  have h1 : c / 2 ^ s < 2 ^ (64 - s) := by
    rw [Nat.div_lt_iff_lt_mul (Nat.pow_pos (by decide)), Nat.mul_comm, pow_split (by omega)]; exact hc
  rw [shl_or (s := 64 - s) (by omega) h1, shl_low (by omega), show 64 - (64 - s) = s by omega]
theorem shr_eq {T S c0 P ci cj M : Nat} {s : Nat} (hs : s ≤ 64) (hM : M = 2 ^ s) (h : T * M + c0 = S + P * (ci % M)) :
    (T + P * (ci / M + 2 ^ (64 - s) * (cj % M))) * M + c0 = (S + P * ci) + P * 18446744073709551616 * (cj % M) := by
  have h1 := Nat.mod_add_div ci M
  have h2 : P * (ci / M + 2 ^ (64 - s) * (cj % M)) * M = P * (M * (ci / M)) + P * 18446744073709551616 * (cj % M) := by
    rw [← pow_split hs, ← hM, Nat.mul_add, Nat.add_mul]
    generalize 2 ^ (64 - s) = R
    generalize cj % M = y
    generalize ci / M = z
    rw [Nat.mul_assoc P z M, Nat.mul_comm z M]
    congr 1
    rw [Nat.mul_assoc, Nat.mul_assoc P (M * R) y]; congr 1
    rw [Nat.mul_comm (R * y) M, ← Nat.mul_assoc]
  rw [Nat.add_mul, h2]
  have h3 : P * ci = P * (ci % M) + P * (M * (ci / M)) := by rw [← Nat.mul_add, h1]
  omega
theorem shr_meets (v : Value) (a : List Nat) (n : Int) (ha : Lim a) (la : a.length ≤ 1099511627776) :
    Meets Tryz.prog 167 [v, .int .i64 n] [(v, U a)] (fun r os fs => os = [] ∧ fs = [(r, U (lims (nv a / 2 ^ far n)))]) := by
  refine meets_of_vc Tryz.func167 (by kernel_rfl) rfl (by kernel_rfl) (Nat.le_of_ble_eq_true rfl) ?_
  refine call_fn (trim_meets v a) (Seals.refl _ _) qS ?_
  rintro v' _ _ ⟨rfl, rfl⟩
  rw [trimL_eq ha]
  have hla := trimmed_len ha
  have hA := Lim_lims (nv a)
  have eA := nv_lims (nv a)
  generalize lims (nv a) = x at *
  refine min2_rule ?_
  refine max2_rule ?_
  have hK : max 0 (min n 8192) = (far n : Int) := by unfold far; omega
  have hK2 : far n ≤ 8192 := by unfold far; omega
  rw [hK]
  generalize far n = K at *
  refine shr_rule K 6 64 rfl rfl rfl (by decide) ?_
  refine conv_int ⟨_, Tryz.underlying3⟩ Tryz.underlying162 (K : Int) (wrap_in ⟨by omega, by omega⟩) ?_
  refine and_rule K 6 64 rfl rfl rfl (by omega) (by decide) ?_
  have hr : K % 64 < 64 := Nat.mod_lt _ (by decide)
  have hKe : 64 * (K / 64) + K % 64 = K := Nat.div_add_mod K 64
  have hpow : 2 ^ K = 18446744073709551616 ^ (K / 64) * 2 ^ (K % 64) := by rw [show (18446744073709551616 : Nat) = 2 ^ 64 from rfl, ← Nat.pow_mul, ← Nat.pow_add, hKe]
  have hwd : K / 64 ≤ 128 := by omega
  have hq : nv a / 2 ^ K = nv (x.drop (K / 64)) / 2 ^ (K % 64) := by rw [hpow, ← Nat.div_div_eq_div_mul, nv_drop _ _ hA, eA]
  generalize K / 64 = wd at *
  generalize K % 64 = s at *
  refine len_fact qM fun _ => ?_
  refine cmp_split _ rfl (fun hc => ?_) (fun hc => ?_)
  · refine fin ⟨rfl, rfl⟩ (Seals.cons ((Knw.nil 1 (UE [])).cast ?_) (Seals.nil _ _))
    rw [hq, List.drop_eq_nil_of_le (by omega), show nv [] = 0 from rfl, Nat.zero_div, lims_zero]
    rfl
  · refine slice_fact (kl := .i64) (kh := .i64) qM wd x.length _ _ (.inr rfl) (.inl ⟨rfl, rfl⟩) (by omega) (by omega) fun u => ?_
    have hdl : (x.drop wd).length = x.length - wd := by simp
    refine call_fn (cfs := [(u, U (x.drop wd))]) (clone_meets u (x.drop wd) (by omega)) (Seals.add (((Knw.fact (List.Mem.head _)).sl_cong (e' := UE (x.drop wd)) fun i hi => ?_).cast (show Dat.sl 1 (x.length - wd) (UE (x.drop wd)) = U (x.drop wd) by rw [U, hdl]; rfl))) qS ?_
    · simp only [UE, List.getD_eq_getElem?_getD, List.getElem?_drop]
    rintro vc _ _ ⟨rfl, hvc, rfl⟩
    have hC : Lim (x.drop wd) := hA.drop wd
    have hget : ∀ j, (x.drop wd).getD j 0 = x.getD (j + wd) 0 := fun j => by simp [List.getD_eq_getElem?_getD, List.getElem?_drop, Nat.add_comm]
    rw [hq]
    generalize hy : x.drop wd = y at *
    refine len_U 0 rfl hvc fun _ => ?_
    refine loop_rule (X := Nat × List Nat) (fun z => ([(0, v'), (5, .int .i64 (wd : Nat)), (6, .int .u64 (s : Nat)), (7, vc), (28, .int .i64 (y.length : Nat)), (29, .int .i64 (z.1 : Nat))], [ownU vc z.2], [(v', U x)]))
      (fun z => z.1 ≤ y.length ∧ z.2.length = y.length ∧ Lim z.2 ∧ (∀ j, z.1 ≤ j → z.2.getD j 0 = y.getD j 0) ∧ nv (z.2.take z.1) * 2 ^ s + y.getD 0 0 % 2 ^ s = nv (y.take z.1) + 18446744073709551616 ^ z.1 * (y.getD z.1 0 % 2 ^ s)) (fun z => y.length - z.1) rfl ?_ ?_
    · exact again (0, y) ⟨Nat.zero_le _, rfl, hC, fun _ _ => rfl, by simp [nv]⟩ trivial qF (Seals.sub qS)
    · rintro ⟨i, l⟩ ⟨h1, h2, h3, h4, h5⟩
      simp only at h1 h2 h3 h4 h5 ⊢
      have hr64 : s < 64 := hr
      refine cmp_split _ rfl (fun hc2 => ?_) (fun hc2 => ?_)
      · have hyi := hC.get i
        have hyj := hC.get (i + 1)
        refine index_U 0 rfl hvc i rfl (by omega) ?_
        refine load_U 0 rfl i (by omega) ?_
        rw [h4 i (Nat.le_refl _)]
        refine shr_rule (y.getD i 0) s (2 ^ s) rfl rfl rfl (by simp [IntKind.bits]; omega) ?_
        refine index_U 0 rfl hvc i rfl (by omega) ?_
        refine store_U 0 rfl _ rfl (by omega) ?_
        have hlow : y.getD i 0 / 2 ^ s ≤ y.getD i 0 := Nat.div_le_self _ _
        have key : ∀ val, val = y.getD i 0 / 2 ^ s + 2 ^ (64 - s) * (y.getD (i + 1) 0 % 2 ^ s) → nv ((l.set i val).take (i + 1)) * 2 ^ s + y.getD 0 0 % 2 ^ s = nv (y.take (i + 1)) + 18446744073709551616 ^ (i + 1) * (y.getD (i + 1) 0 % 2 ^ s) := fun val hv => by
          rw [nv_take_set (by omega), nv_take_succ, Nat.pow_succ, hv]
          exact shr_eq (by omega) rfl h5
        refine cmp_split _ rfl (fun hd => ?_) (fun hd => ?_)
        · refine ar rfl qI ?_
          refine ar rfl qI ?_
          refine len_fact qM fun _ => ?_
          refine cmp_split _ rfl (fun he => ?_) (fun he => ?_)
          · refine draw_rule [0, 1, 2, 3, 4, 5, 6, 7, 8, 9, 10, 11, 12, 13, 14, 15, 16] [0, 1, 2, 3, 4, 5, 6, 7, 8, 9, 10, 11, 12, 13, 14, 15, 16] (by kernel_rfl) (by kernel_rfl) ?_
            refine index_U 0 rfl hvc i rfl (by simp; omega) ?_
            refine load_U 0 rfl i (by simp; omega) ?_
            rw [getD_set (by omega), if_pos rfl]
            refine ar rfl qI ?_
            refine ar rfl qI ?_
            refine index_fact qM (i + 1 + wd) (by omega) (by omega) fun p => ?_
            refine load_one qM ?_
            rw [← hget (i + 1)]
            refine ar rfl qI ?_
            refine shl_rule (y.getD (i + 1) 0) (64 - s) rfl (by omega) (by omega) ?_
            refine or_rule _ _ rfl rfl (by omega) (Nat.mod_lt _ (by decide)) ?_
            have hlt : y.getD i 0 / 2 ^ s ||| y.getD (i + 1) 0 * 2 ^ (64 - s) % 18446744073709551616 < 18446744073709551616 := Nat.or_lt_two_pow (n := 64) (by omega) (Nat.mod_lt _ (by decide))
            refine index_U 0 rfl hvc i rfl (by simp; omega) ?_
            refine store_U 0 rfl _ rfl (by simp; omega) ?_
            refine ar rfl qI ?_
            refine again (i + 1, (l.set i (y.getD i 0 / 2 ^ s)).set i (y.getD i 0 / 2 ^ s ||| y.getD (i + 1) 0 * 2 ^ (64 - s) % 18446744073709551616)) ⟨by omega, by simp [h2], (h3.set _ (by omega)).set _ hlt, fun j hj => ?_, ?_⟩ (by simp only; omega) qF (Seals.sub qS)
            · simp only at hj ⊢
              rw [getD_set (by simp; omega), if_neg (by omega), getD_set (by omega), if_neg (by omega)]; exact h4 j (by omega)
            · simp only
              rw [List.set_set]
              exact key _ (shr_or hr64 hyi)
          · refine ar rfl qI ?_
            refine again (i + 1, l.set i (y.getD i 0 / 2 ^ s)) ⟨by omega, by simp [h2], h3.set _ (by omega), fun j hj => ?_, ?_⟩ (by simp only; omega) qF (Seals.sub qS)
            · simp only at hj ⊢
              rw [getD_set (by omega), if_neg (by omega)]; exact h4 j (by omega)
            · simp only
              refine key _ ?_
              rw [getD_of_le (l := y) (i := i + 1) (by omega)]; simp
        · have hs0 : s = 0 := by omega
          refine ar rfl qI ?_
          refine again (i + 1, l.set i (y.getD i 0 / 2 ^ s)) ⟨by omega, by simp [h2], h3.set _ (by omega), fun j hj => ?_, ?_⟩ (by simp only; omega) qF (Seals.sub qS)
          · simp only at hj ⊢
            rw [getD_set (by omega), if_neg (by omega)]; exact h4 j (by omega)
          · simp only
            refine key _ ?_
            subst hs0
            simp [Nat.mod_one]
      · have hi : i = y.length := by omega
        refine call_fn (trim_meets vc l) (Seals.U 0 rfl hvc) qS ?_
        rintro r _ _ ⟨rfl, rfl⟩
        refine fin ⟨rfl, rfl⟩ (Seals.cons ((Knw.fact qM).cast ?_) (Seals.nil _ _))
        rw [trimL_eq h3]
        congr 2
        rw [hi, List.take_length, List.take_of_length_le (by omega), getD_of_le (l := y) (i := y.length) (by omega)] at h5
        rw [Nat.zero_mod, Nat.mul_zero, Nat.add_zero] at h5
        rw [← h5, Nat.add_comm, Nat.add_mul_div_right _ _ (Nat.pow_pos (by decide)), Nat.div_eq_of_lt (Nat.mod_lt _ (Nat.pow_pos (by decide))), Nat.zero_add]
open Go.RowKit
def cutQ {Y : Type} (id : Nat) (J : Y → Fr × List Own × List Fact) (okJ : Y → Prop) (Q : Post) : Post
  | .exit i => match Nat.beq i id with
    | true => fun f os fs => AtK J okJ f os fs fun _ => True
    | false => Q (.exit i)
  | e => Q e
theorem loop_cut {P : Program} {N : Nat} {c : Code} {f : Fr} {os : List Own} {fs : List Fact} {Q : Post} {Y : Type} (id : Nat) (J : Y → Fr × List Own × List Fact) (okJ : Y → Prop)
    (h1 : LoopK P N c f os fs (cutQ id J okJ Q)) (h2 : ∀ y, okJ y → Q (.exit id) (J y).1 (J y).2.1 (J y).2.2) : LoopK P N c f os fs Q := by
  refine ⟨fun G a w hk hw => Code.wp_mono ?_ (h1.out G a w hk hw)⟩
  rintro e a' w' ⟨f', os', fs', hk', hw', hq⟩
  cases e with
  | exit i =>
    simp only [cutQ] at hq
    cases hb : Nat.beq i id with
    | true =>
      simp only [hb] at hq
      obtain ⟨⟨y, hy, _, g1, g2⟩⟩ := hq
      have := Nat.eq_of_beq_eq_true hb
      subst this
      exact ⟨_, _, _, hk'.sub g1, g2 G w' hw', h2 y hy⟩
    | false => simp only [hb] at hq; exact ⟨f', os', fs', hk', hw', hq⟩
  | normal => exact ⟨f', os', fs', hk', hw', hq⟩
  | goto l => exact ⟨f', os', fs', hk', hw', hq⟩
  | ret => exact ⟨f', os', fs', hk', hw', hq⟩
  | panic ch => exact ⟨f', os', fs', hk', hw', hq⟩
  | outgrown => exact ⟨f', os', fs', hk', hw', hq⟩
structure DivStep (u y y1 y0 u1 q : Nat) : Prop where
  hy : y = y1 * 4294967296 + y0
  h1 : 2147483648 ≤ y1
  h2 : y1 < 4294967296
  h3 : y0 < 4294967296
  h4 : u < y
  h5 : u1 < 4294967296
  hq : q = (u * 4294967296 + u1) / y
theorem DivStep.lt {u y y1 y0 u1 q : Nat} (h : DivStep u y y1 y0 u1 q) : q < 4294967296 := by
  rw [h.hq, Nat.div_lt_iff_lt_mul (by have := h.h4; omega)]
  have := Nat.mul_le_mul_right 4294967296 (Nat.succ_le_of_lt h.h4)
  have := h.h5
  have e : u.succ * 4294967296 = u * 4294967296 + 4294967296 := Nat.succ_mul _ _
  rw [Nat.mul_comm 4294967296 y]
  omega
theorem DivStep.first {u y y1 y0 u1 q : Nat} (h : DivStep u y y1 y0 u1 q) : q ≤ u / y1 ∧ u / y1 ≤ 4294967297 := by
  obtain ⟨hy, h1, h2, h3, h4, h5, hq⟩ := h
  have hd := Nat.div_add_mod u y1
  have hm := Nat.mod_lt u (show 0 < y1 by omega)
  generalize u / y1 = g at *
  generalize u % y1 = r at *
  constructor
  · rw [hq]
    refine Nat.le_of_lt_succ ((Nat.div_lt_iff_lt_mul (by omega)).2 ?_)
    have e1 : (g + 1) * y1 = y1 * g + y1 := by rw [Nat.add_mul, Nat.mul_comm]; omega
    have e2 : (g + 1) * y = (g + 1) * y1 * 4294967296 + (g + 1) * y0 := by rw [hy, Nat.mul_add, Nat.mul_assoc]
    have e3 : (u + 1) * 4294967296 ≤ (g + 1) * y1 * 4294967296 := Nat.mul_le_mul_right _ (by omega)
    rw [Nat.succ_eq_add_one, e2]
    omega
  · refine Nat.le_of_lt_succ (Nat.lt_of_mul_lt_mul_left (a := y1) ?_)
    have : y1 * (4294967297 + 1) = y1 * 4294967296 + 2 * y1 := by omega
    omega
theorem DivStep.high {u y y1 y0 u1 q g r : Nat} (h : DivStep u y y1 y0 u1 q) (hg : g * y1 + r = u) (ht : 4294967296 * r + u1 < g * y0) : q < g := by
  obtain ⟨hy, h1, h2, h3, h4, h5, hq⟩ := h
  rw [hq, Nat.div_lt_iff_lt_mul (by omega), hy, Nat.mul_add, ← Nat.mul_assoc, ← hg, Nat.add_mul]
  omega
theorem DivStep.low {u y y1 y0 u1 q g r : Nat} (h : DivStep u y y1 y0 u1 q) (hg : g * y1 + r = u) (ht : g * y0 ≤ 4294967296 * r + u1) : g ≤ q := by
  obtain ⟨hy, h1, h2, h3, h4, h5, hq⟩ := h
  rw [hq, Nat.le_div_iff_mul_le (by omega), hy, Nat.mul_add, ← Nat.mul_assoc, ← hg, Nat.add_mul]
  omega
theorem norm_top {y k : Nat} (h : IsLen y k) (hy : y ≠ 0) : y * 2 ^ (64 - k) < 18446744073709551616 ∧ 9223372036854775808 ≤ y * 2 ^ (64 - k) := by
  obtain ⟨h1, h2, h3⟩ := h
  have hk : k ≠ 0 := fun e => by subst e; simp at h1; omega
  have h2' : 2 ^ (k - 1) ≤ y := h2.resolve_left hk
  have hp : 0 < 2 ^ (64 - k) := Nat.pow_pos (by decide)
  constructor
  · have : y * 2 ^ (64 - k) < 2 ^ k * 2 ^ (64 - k) := Nat.mul_lt_mul_of_pos_right h1 hp
    rwa [← Nat.pow_add, show k + (64 - k) = 64 by omega] at this
  · have : 2 ^ (k - 1) * 2 ^ (64 - k) ≤ y * 2 ^ (64 - k) := Nat.mul_le_mul_right _ h2'
    rwa [← Nat.pow_add, show k - 1 + (64 - k) = 63 by omega] at this
theorem wrap_u64 (n : Int) : IntKind.u64.wrap n = n % 18446744073709551616 := by simp [IntKind.wrap, IntKind.bits, IntKind.signed]
theorem div_final {hi lo y q1 q0 r1 r0 un32 un1 un0 S : Nat} (hS : 0 < S) (hu : un32 * 18446744073709551616 + (un1 * 4294967296 + un0) = (hi * 18446744073709551616 + lo) * S)
    (h1 : q1 * (y * S) + r1 = un32 * 4294967296 + un1) (h0 : q0 * (y * S) + r0 = r1 * 4294967296 + un0) (hr : r0 < y * S) :
    q1 * 4294967296 + q0 = (hi * 18446744073709551616 + lo) / y ∧ r0 / S = (hi * 18446744073709551616 + lo) % y := by
  have hy : 0 < y := Nat.pos_of_ne_zero fun e => by subst e; simp at hr
  have key : (hi * 18446744073709551616 + lo) * S = (q1 * 4294967296 + q0) * (y * S) + r0 := by
    rw [← hu, Nat.add_mul, Nat.mul_right_comm]
    omega
  have hd : (hi * 18446744073709551616 + lo) * S / (y * S) = (hi * 18446744073709551616 + lo) / y := Nat.mul_div_mul_right _ _ hS
  have hm : (hi * 18446744073709551616 + lo) * S % (y * S) = (hi * 18446744073709551616 + lo) % y * S := Nat.mul_mod_mul_right _ _ _
  rw [key] at hd hm
  rw [Nat.mul_comm (q1 * 4294967296 + q0) (y * S), Nat.mul_add_div (Nat.mul_pos hy hS), Nat.div_eq_of_lt hr, Nat.add_zero] at hd
  rw [Nat.mul_comm (q1 * 4294967296 + q0) (y * S), Nat.mul_add_mod, Nat.mod_eq_of_lt hr] at hm
  exact ⟨hd, by rw [hm, Nat.mul_div_cancel _ hS]⟩
theorem div64_meets (hi lo y : Nat) (h1 : hi < y) (h2 : lo < 18446744073709551616) (h3 : y < 18446744073709551616) :
    Meets Tryz.prog 176 [.int .u64 (hi : Int), .int .u64 (lo : Int), .int .u64 (y : Int)] [] (fun r os fs => os = [] ∧ fs = [] ∧
      r = .tuple #[.int .u64 (((hi * 18446744073709551616 + lo) / y : Nat) : Int), .int .u64 (((hi * 18446744073709551616 + lo) % y : Nat) : Int)]) := by
  refine meets_of_vc Tryz.func176 (by kernel_rfl) rfl (by kernel_rfl) (Nat.le_of_ble_eq_true rfl) ?_
  refine cmp_false rfl (by omega) ?_
  refine cmp_false rfl (by omega) ?_
  refine cmp_split _ rfl (fun hc => ?_) (fun hc => ?_)
  · have h0 : hi = 0 := by omega
    subst h0
    refine draw_rule [0, 1, 2, 3, 4, 5, 6, 7] [0, 1, 2, 6, 3, 4, 5, 7] (by kernel_rfl) (by kernel_rfl) ?_
    have hdl : lo / y ≤ lo := Nat.div_le_self _ _
    refine quo_rule (by omega) (by omega) (by rw [← Int.natCast_ediv]; exact ⟨Int.natCast_nonneg _, by omega⟩) ?_
    refine rem_rule (by omega) (by omega) ?_
    refine fin ⟨rfl, rfl, ?_⟩ (Seals.nil _ _)
    simp [tup]
  · refine call_fn (lz64_meets y h3) (Seals.refl _ _) qS ?_
    rintro _ _ _ ⟨rfl, rfl, k, rfl, hk⟩
    have hk64 := hk.2.2
    have hnt := norm_top hk (by omega)
    have hs64 : 64 - k < 64 := by
      have : k ≠ 0 := fun e => by have := hk.1; rw [e] at this; simp at this; omega
      omega
    generalize 64 - k = s at *
    refine conv_int ⟨_, Tryz.underlying3⟩ Tryz.underlying162 (s : Int) (wrap_in ⟨by omega, by omega⟩) ?_
    have hSp : 0 < 2 ^ s := Nat.pow_pos (by decide)
    have hhi : hi * 2 ^ s < y * 2 ^ s := Nat.mul_lt_mul_of_pos_right h1 hSp
    refine shl_rule y s rfl rfl (by omega) ?_
    rw [Nat.mod_eq_of_lt hnt.1]
    refine shr_rule (y * 2 ^ s) 32 4294967296 rfl rfl rfl (by decide) ?_
    refine and_rule (y * 2 ^ s) 32 4294967296 rfl rfl rfl hnt.1 (by decide) ?_
    refine shl_rule hi s rfl rfl (by omega) ?_
    rw [Nat.mod_eq_of_lt (Nat.lt_trans hhi hnt.1)]
    refine ar rfl qI ?_
    refine shr_rule lo (64 - s) (2 ^ (64 - s)) rfl (by omega) rfl (by simp [IntKind.bits]) ?_
    have hlolt := shl_lt hs64 h2
    have hor : hi * 2 ^ s ||| lo / 2 ^ (64 - s) = hi * 2 ^ s + lo / 2 ^ (64 - s) := by rw [Nat.mul_comm hi, ← Nat.two_pow_add_eq_or_of_lt hlolt]
    refine or_rule _ _ rfl rfl (by omega) (by have : lo / 2 ^ (64 - s) ≤ lo := Nat.div_le_self _ _; omega) ?_
    rw [hor]
    refine shl_rule lo s rfl rfl (by omega) ?_
    have hun : (hi * 2 ^ s + lo / 2 ^ (64 - s)) * 18446744073709551616 + lo * 2 ^ s % 18446744073709551616 = (hi * 18446744073709551616 + lo) * 2 ^ s := by
      rw [← shl_high (x := lo) (by omega : s ≤ 64), Nat.add_mul, Nat.add_mul, Nat.mul_right_comm hi]
      have := Nat.div_add_mod (lo * 2 ^ s) 18446744073709551616
      generalize lo * 2 ^ s = Z at *
      omega
    have hult : hi * 2 ^ s + lo / 2 ^ (64 - s) < y * 2 ^ s := by
      have : (hi + 1) * 2 ^ s ≤ y * 2 ^ s := Nat.mul_le_mul_right _ h1
      rw [Nat.add_mul] at this
      omega
    have hlm : lo * 2 ^ s % 18446744073709551616 < 18446744073709551616 := Nat.mod_lt _ (by decide)
    have hfin := @div_final hi lo y
    generalize hY : y * 2 ^ s = Y at *
    generalize hi * 2 ^ s + lo / 2 ^ (64 - s) = u at *
    generalize lo * 2 ^ s % 18446744073709551616 = un10 at *
    refine shr_rule un10 32 4294967296 rfl rfl rfl (by decide) ?_
    refine and_rule un10 32 4294967296 rfl rfl rfl hlm (by decide) ?_
    obtain ⟨y1, hy1⟩ : ∃ y1, y1 = Y / 4294967296 := ⟨_, rfl⟩
    obtain ⟨y0, hy0⟩ : ∃ y0, y0 = Y % 4294967296 := ⟨_, rfl⟩
    obtain ⟨u1, hu1⟩ : ∃ u1, u1 = un10 / 4294967296 := ⟨_, rfl⟩
    obtain ⟨u0, hu0⟩ : ∃ u0, u0 = un10 % 4294967296 := ⟨_, rfl⟩
    obtain ⟨q1, hq1⟩ : ∃ q1, q1 = (u * 4294967296 + u1) / Y := ⟨_, rfl⟩
    obtain ⟨r1, hr1⟩ : ∃ r1, r1 = (u * 4294967296 + u1) % Y := ⟨_, rfl⟩
    have hst : DivStep u Y y1 y0 u1 q1 := ⟨by omega, by omega, by omega, by omega, hult, by omega, hq1⟩
    have hf := hst.first
    have hfd := Nat.div_add_mod u y1
    have hfm := Nat.mod_lt u (show 0 < y1 by omega)
    have hqd : Y * q1 + r1 = u * 4294967296 + u1 := by rw [hq1, hr1]; exact Nat.div_add_mod _ _
    have hqm : r1 < Y := by rw [hr1]; exact Nat.mod_lt _ (by omega)
    clear hq1 hr1
    rw [← hy1, ← hy0, ← hu1, ← hu0]
    have hdle : u / y1 ≤ u := Nat.div_le_self _ _
    refine quo_rule (by omega) (by omega) (by rw [← Int.natCast_ediv]; exact ⟨Int.natCast_nonneg _, by omega⟩) ?_
    rw [← Int.natCast_ediv]
    have hle : u / y1 * y1 ≤ u := Nat.div_mul_le_self _ _
    refine ar_wrap rfl ((u / y1 * y1 : Nat) : Int) (by rw [← Int.natCast_mul]; exact wrap_in ⟨Int.natCast_nonneg _, by omega⟩) ?_
    refine ar_wrap rfl ((u % y1 : Nat) : Int) (by rw [show ((u : Int) - ((u / y1 * y1 : Nat) : Int)) = ((u % y1 : Nat) : Int) from by have := Nat.mul_comm y1 (u / y1); omega]; exact wrap_in ⟨by omega, by omega⟩) ?_
    refine loop_cut (Y := Nat) 0 (fun g => ([(2, .int .u64 (Y : Nat)), (8, .int .u64 (s : Nat)), (9, .int .u64 (y1 : Nat)), (10, .int .u64 (y0 : Nat)), (11, .int .u64 (u : Nat)), (13, .int .u64 (u1 : Nat)), (14, .int .u64 (u0 : Nat)), (15, .int .u64 (g : Nat))], [], []))
      (fun g => g = q1) ?_ ?_
    · refine loop_rule (X := Nat × Nat) (fun x => ([(2, .int .u64 (Y : Nat)), (8, .int .u64 (s : Nat)), (9, .int .u64 (y1 : Nat)), (10, .int .u64 (y0 : Nat)), (11, .int .u64 (u : Nat)), (13, .int .u64 (u1 : Nat)), (14, .int .u64 (u0 : Nat)), (15, .int .u64 (x.1 : Nat)), (16, .int .u64 (x.2 : Nat))], [], []))
        (fun x => x.1 * y1 + x.2 = u ∧ x.2 < 4294967296 ∧ q1 ≤ x.1 ∧ x.1 ≤ 4294967297) (fun x => x.1) rfl ?_ ?_
      · exact again (u / y1, u % y1) ⟨by simp only; rw [Nat.mul_comm]; exact hfd, by simp only; omega, hf.1, hf.2⟩ trivial qF (Seals.sub qS)
      ·
        rintro ⟨g, r⟩ ⟨g1, g2, g3, g4⟩
        simp only at g1 g2 g3 g4 ⊢
        have hlt := hst.lt
        have b1 : g * y0 ≤ 4294967297 * y0 := Nat.mul_le_mul_right _ g4
        refine cmp_split _ rfl (fun hc => ?_) (fun hc => ?_)
        · refine ar rfl qI ?_
          refine ar rfl qI ?_
          have e1 : (g - 1) * y1 + (r + y1) = g * y1 + r := by
            obtain ⟨g', rfl⟩ : ∃ g', g = g' + 1 := ⟨g - 1, by omega⟩
            rw [Nat.add_mul]; simp; omega
          refine cmp_split _ rfl (fun hd => ?_) (fun hd => ?_)
          · refine again (g - 1) ?_ trivial qF (Seals.sub qS)
            have b2 : (g - 1) * y0 ≤ 4294967296 * y0 := Nat.mul_le_mul_right _ (by omega)
            have := hst.low (e1.trans g1) (by have := hst.h3; omega)
            omega
          · exact again (g - 1, r + y1) ⟨by simp only; exact e1.trans g1, by simp only; omega, by simp only; omega, by simp only; omega⟩ (by simp only; omega) qF (Seals.sub qS)
        · have b0 : g * y0 ≤ 4294967295 * 4294967295 := Nat.mul_le_mul (by omega) (by have := hst.h3; omega)
          refine ar_wrap rfl ((g * y0 : Nat) : Int) (by rw [← Int.natCast_mul]; exact wrap_in ⟨Int.natCast_nonneg _, by omega⟩) ?_
          refine ar rfl qI ?_
          refine ar rfl qI ?_
          refine cmp_split _ rfl (fun hd => ?_) (fun hd => ?_)
          · have hh := hst.high g1 (by omega)
            refine ar rfl qI ?_
            refine ar rfl qI ?_
            have e1 : (g - 1) * y1 + (r + y1) = g * y1 + r := by
              obtain ⟨g', rfl⟩ : ∃ g', g = g' + 1 := ⟨g - 1, by omega⟩
              rw [Nat.add_mul]; simp; omega
            refine cmp_split _ rfl (fun he => ?_) (fun he => ?_)
            · refine again (g - 1) ?_ trivial qF (Seals.sub qS)
              have b2 : (g - 1) * y0 ≤ 4294967296 * y0 := Nat.mul_le_mul_right _ (by omega)
              have := hst.low (e1.trans g1) (by have := hst.h3; omega)
              omega
            · exact again (g - 1, r + y1) ⟨by simp only; exact e1.trans g1, by simp only; omega, by simp only; omega, by simp only; omega⟩ (by simp only; omega) qF (Seals.sub qS)
          · refine again g ?_ trivial qF (Seals.sub qS)
            have := hst.low g1 (by omega)
            omega
    · rintro g rfl
      have hr1B : r1 < 18446744073709551616 := by omega
      refine ar_wrap rfl (((u * 4294967296 : Nat) : Int) % 18446744073709551616) (by rw [wrap_u64]; rfl) ?_
      refine ar_wrap rfl ((((u * 4294967296 : Nat) : Int) + u1) % 18446744073709551616) (by rw [wrap_u64]; omega) ?_
      refine ar_wrap rfl (((Y * g : Nat) : Int) % 18446744073709551616) (by rw [wrap_u64, ← Int.natCast_mul, Nat.mul_comm]) ?_
      refine ar_wrap rfl ((r1 : Nat) : Int) (by rw [wrap_u64]; omega) ?_
      obtain ⟨q0, hq0⟩ : ∃ q0, q0 = (r1 * 4294967296 + u0) / Y := ⟨_, rfl⟩
      obtain ⟨r0, hr0⟩ : ∃ r0, r0 = (r1 * 4294967296 + u0) % Y := ⟨_, rfl⟩
      have hst2 : DivStep r1 Y y1 y0 u0 q0 := ⟨by omega, by omega, by omega, by omega, hqm, by omega, hq0⟩
      have hf2 := hst2.first
      have hfd2 := Nat.div_add_mod r1 y1
      have hfm2 := Nat.mod_lt r1 (show 0 < y1 by omega)
      have hqd2 : Y * q0 + r0 = r1 * 4294967296 + u0 := by rw [hq0, hr0]; exact Nat.div_add_mod _ _
      have hqm2 : r0 < Y := by rw [hr0]; exact Nat.mod_lt _ (by omega)
      clear hq0 hr0
      have hdle2 : r1 / y1 ≤ r1 := Nat.div_le_self _ _
      refine quo_rule (by omega) (by omega) (by rw [← Int.natCast_ediv]; exact ⟨Int.natCast_nonneg _, by omega⟩) ?_
      rw [← Int.natCast_ediv]
      have hle2 : r1 / y1 * y1 ≤ r1 := Nat.div_mul_le_self _ _
      refine ar_wrap rfl ((r1 / y1 * y1 : Nat) : Int) (by rw [← Int.natCast_mul]; exact wrap_in ⟨Int.natCast_nonneg _, by omega⟩) ?_
      refine ar_wrap rfl ((r1 % y1 : Nat) : Int) (by rw [show ((r1 : Int) - ((r1 / y1 * y1 : Nat) : Int)) = ((r1 % y1 : Nat) : Int) from by have := Nat.mul_comm y1 (r1 / y1); omega]; exact wrap_in ⟨by omega, by omega⟩) ?_
      have hglt := hst.lt
      clear hst hf
      refine loop_cut (Y := Nat) 2 (fun h => ([(2, .int .u64 (Y : Nat)), (8, .int .u64 (s : Nat)), (14, .int .u64 (u0 : Nat)), (15, .int .u64 (g : Nat)), (17, .int .u64 (r1 : Nat)), (18, .int .u64 (h : Nat))], [], []))
        (fun h => h = q0) ?_ ?_
      · refine loop_rule (X := Nat × Nat) (fun x => ([(2, .int .u64 (Y : Nat)), (8, .int .u64 (s : Nat)), (9, .int .u64 (y1 : Nat)), (10, .int .u64 (y0 : Nat)), (14, .int .u64 (u0 : Nat)), (15, .int .u64 (g : Nat)), (17, .int .u64 (r1 : Nat)), (18, .int .u64 (x.1 : Nat)), (16, .int .u64 (x.2 : Nat))], [], []))
          (fun x => x.1 * y1 + x.2 = r1 ∧ x.2 < 4294967296 ∧ q0 ≤ x.1 ∧ x.1 ≤ 4294967297) (fun x => x.1) rfl ?_ ?_
        · exact again (r1 / y1, r1 % y1) ⟨by simp only; rw [Nat.mul_comm]; exact hfd2, by simp only; omega, hf2.1, hf2.2⟩ trivial qF (Seals.sub qS)
        · have hst := hst2
          rintro ⟨g, r⟩ ⟨g1, g2, g3, g4⟩
          simp only at g1 g2 g3 g4 ⊢
          have hlt := hst.lt
          have b1 : g * y0 ≤ 4294967297 * y0 := Nat.mul_le_mul_right _ g4
          refine cmp_split _ rfl (fun hc => ?_) (fun hc => ?_)
          · refine ar rfl qI ?_
            refine ar rfl qI ?_
            have e1 : (g - 1) * y1 + (r + y1) = g * y1 + r := by
              obtain ⟨g', rfl⟩ : ∃ g', g = g' + 1 := ⟨g - 1, by omega⟩
              rw [Nat.add_mul]; simp; omega
            refine cmp_split _ rfl (fun hd => ?_) (fun hd => ?_)
            · refine again (g - 1) ?_ trivial qF (Seals.sub qS)
              have b2 : (g - 1) * y0 ≤ 4294967296 * y0 := Nat.mul_le_mul_right _ (by omega)
              have := hst.low (e1.trans g1) (by have := hst.h3; omega)
              omega
            · exact again (g - 1, r + y1) ⟨by simp only; exact e1.trans g1, by simp only; omega, by simp only; omega, by simp only; omega⟩ (by simp only; omega) qF (Seals.sub qS)
          · have b0 : g * y0 ≤ 4294967295 * 4294967295 := Nat.mul_le_mul (by omega) (by have := hst.h3; omega)
            refine ar_wrap rfl ((g * y0 : Nat) : Int) (by rw [← Int.natCast_mul]; exact wrap_in ⟨Int.natCast_nonneg _, by omega⟩) ?_
            refine ar rfl qI ?_
            refine ar rfl qI ?_
            refine cmp_split _ rfl (fun hd => ?_) (fun hd => ?_)
            · have hh := hst.high g1 (by omega)
              refine ar rfl qI ?_
              refine ar rfl qI ?_
              have e1 : (g - 1) * y1 + (r + y1) = g * y1 + r := by
                obtain ⟨g', rfl⟩ : ∃ g', g = g' + 1 := ⟨g - 1, by omega⟩
                rw [Nat.add_mul]; simp; omega
              refine cmp_split _ rfl (fun he => ?_) (fun he => ?_)
              · refine again (g - 1) ?_ trivial qF (Seals.sub qS)
                have b2 : (g - 1) * y0 ≤ 4294967296 * y0 := Nat.mul_le_mul_right _ (by omega)
                have := hst.low (e1.trans g1) (by have := hst.h3; omega)
                omega
              · exact again (g - 1, r + y1) ⟨by simp only; exact e1.trans g1, by simp only; omega, by simp only; omega, by simp only; omega⟩ (by simp only; omega) qF (Seals.sub qS)
            · refine again g ?_ trivial qF (Seals.sub qS)
              have := hst.low g1 (by omega)
              omega
      · rintro h rfl
        have hhlt := hst2.lt
        refine ar rfl qI ?_
        refine ar rfl qI ?_
        refine ar_wrap rfl (((r1 * 4294967296 : Nat) : Int) % 18446744073709551616) (by rw [wrap_u64]; rfl) ?_
        refine ar_wrap rfl ((((r1 * 4294967296 : Nat) : Int) + u0) % 18446744073709551616) (by rw [wrap_u64]; omega) ?_
        refine ar_wrap rfl (((Y * h : Nat) : Int) % 18446744073709551616) (by rw [wrap_u64, ← Int.natCast_mul, Nat.mul_comm]) ?_
        refine ar_wrap rfl ((r0 : Nat) : Int) (by rw [wrap_u64]; omega) ?_
        refine shr_rule r0 s (2 ^ s) rfl rfl rfl (by simp [IntKind.bits]; omega) ?_
        obtain ⟨e1, e2⟩ := hfin (q1 := g) (q0 := h) (r1 := r1) (r0 := r0) (un32 := u) (un1 := u1) (un0 := u0) hSp (by rw [← hun]; omega) (by rw [hY, Nat.mul_comm]; exact hqd) (by rw [hY, Nat.mul_comm]; exact hqd2) (by rw [hY]; exact hqm2)
        refine fin ⟨rfl, rfl, ?_⟩ (Seals.nil _ _)
        rw [← e1, ← e2]
        simp [tup]
open Go.RowKit
theorem short_meets (v : Value) (a : List Nat) (y : Nat) (ha : Lim a) (la : a.length ≤ 1099511627776) (hy : y < 18446744073709551616) (h0 : y ≠ 0) :
    Meets Tryz.prog 158 [v, .int .u64 (y : Int)] [(v, U a)] (fun r os fs => os = [] ∧ ∃ q s, r = .tuple #[q, s, .bool true] ∧ fs = [(q, U (lims (nv a / y))), (s, U (lims (nv a % y)))]) := by
  refine meets_of_vc Tryz.func158 (by kernel_rfl) rfl (by kernel_rfl) (Nat.le_of_ble_eq_true rfl) ?_
  refine len_fact qM fun _ => ?_
  refine make_U a.length rfl rfl (by omega) (by omega) fun vo ho => ?_
  refine len_fact qM fun _ => ?_
  refine ar rfl qI ?_
  refine loop_rule (X := Nat × List Nat × Nat) (fun x => ([(0, v), (1, .int .u64 (y : Nat)), (7, vo), (8, .int .u64 (x.2.2 : Nat)), (9, .int .i64 ((x.1 : Int) - 1))], [ownU vo x.2.1], [(v, U a)]))
    (fun x => x.1 ≤ a.length ∧ x.2.1.length = a.length ∧ Lim x.2.1 ∧ x.2.2 < y ∧ nv (a.drop x.1) = nv (x.2.1.drop x.1) * y + x.2.2) (fun x => x.1) rfl ?_ ?_
  · exact again (a.length, List.replicate a.length 0, 0) ⟨Nat.le_refl _, by simp, Lim.replicate _, by simp only; omega, by simp [nv]⟩ trivial qF (Seals.sub qS)
  · rintro ⟨k, l, r⟩ ⟨h1, h2, h3, h4, h5⟩
    simp only at h1 h2 h3 h4 h5 ⊢
    refine cmp_split _ rfl (fun hc => ?_) (fun hc => ?_)
    · obtain ⟨i, rfl⟩ : ∃ i, k = i + 1 := ⟨k - 1, by omega⟩
      have hx := ha.get i
      refine index_fact qM i (by omega) (by omega) fun p => ?_
      refine load_one qM ?_
      refine call_fn (div64_meets r (a.getD i 0) y h4 hx hy) (Seals.refl _ _) qS ?_
      rintro _ _ _ ⟨rfl, rfl, rfl⟩
      have hq : (r * 18446744073709551616 + a.getD i 0) / y < 18446744073709551616 := by
        rw [Nat.div_lt_iff_lt_mul (by omega)]
        have : (r + 1) * 18446744073709551616 ≤ y * 18446744073709551616 := Nat.mul_le_mul_right _ h4
        rw [Nat.mul_comm 18446744073709551616 y]
        omega
      refine index_U 0 rfl ho i (by omega) (by omega) ?_
      refine store_U 0 rfl _ rfl (by omega) ?_
      refine ar rfl qI ?_
      refine again (i, l.set i ((r * 18446744073709551616 + a.getD i 0) / y), (r * 18446744073709551616 + a.getD i 0) % y) ⟨by omega, by simp [h2], h3.set _ hq, Nat.mod_lt _ (by omega), ?_⟩ (by simp only; omega) qF (Seals.sub qS)
      simp only
      have e1 : nv (a.drop i) = a.getD i 0 + 18446744073709551616 * nv (a.drop (i + 1)) := by
        rw [List.drop_eq_getElem_cons (by omega), nv]; simp [List.getD_eq_getElem?_getD, show i < a.length by omega]
      have e2 : nv ((l.set i ((r * 18446744073709551616 + a.getD i 0) / y)).drop i) = (r * 18446744073709551616 + a.getD i 0) / y + 18446744073709551616 * nv (l.drop (i + 1)) := by
        rw [List.drop_eq_getElem_cons (by simp; omega), nv, List.drop_set_of_lt (by omega)]; simp
      have hd := Nat.div_add_mod (r * 18446744073709551616 + a.getD i 0) y
      rw [e1, e2, h5, Nat.mul_add, Nat.add_mul]
      have e3 : 18446744073709551616 * (nv (l.drop (i + 1)) * y) = 18446744073709551616 * nv (l.drop (i + 1)) * y := (Nat.mul_assoc _ _ _).symm
      have e4 := Nat.mul_comm y ((r * 18446744073709551616 + a.getD i 0) / y)
      omega
    · have hk : k = 0 := by omega
      subst hk
      rw [List.drop_zero, List.drop_zero] at h5
      refine call_fn (trim_meets vo l) (Seals.U 0 rfl ho) qS ?_
      rintro q _ _ ⟨rfl, rfl⟩
      refine lit_U r rfl fun w => ?_
      refine call_fn (trim_meets w [r]) (Seals.refl _ _) qS ?_
      rintro s _ _ ⟨rfl, rfl⟩
      have hdm : nv a / y = nv l ∧ nv a % y = r := by
        rw [h5, Nat.mul_comm]
        exact ⟨by rw [Nat.mul_add_div (by omega), Nat.div_eq_of_lt h4, Nat.add_zero], by rw [Nat.mul_add_mod, Nat.mod_eq_of_lt h4]⟩
      refine fin ⟨rfl, q, s, rfl, rfl⟩ (Seals.cons ((Knw.fact qM).cast ?_) (Seals.cons ((Knw.fact qM).cast ?_) (Seals.nil _ _)))
      · rw [trimL_eq h3, hdm.1]
      · rw [trimL_eq (Lim.cons (by omega) Lim.nil), hdm.2]; simp [nv]
theorem call_inline {P : Program} {g : FuncId} {fn : Func} {c : Code} {args : List Value} {os : List Own} {fs : List Fact} {K : Cont}
    (hf : P.funcs[g]? = some fn) (hname : (fn.name == "runtime.NumGoroutine") = false) (hb : fn.body = some c) (hok : codeOK fn.ntmps c = true) (hn : args.length ≤ fn.ntmps)
    (h : VC P fn.ntmps c (argF 0 args) os fs (retQ P fn K)) : CallK P false (.func (.func g) #[] #[]) args os fs K := by
  refine ⟨fun G w hw => ?_, fun h => by cases h⟩
  have hrun : (do let x ← Deferred.ofValue (.func (.func g) #[] #[]) args.toArray; invoke x.target x.args : Sem Next).run P w = .ok (.enter g args.toArray) w := by
    simp only [Deferred.ofValue, pure_bind, invoke, Array.empty_append, Array.append_empty]
    simp only [callFunc, Sem.run_bind, run_program, Result.andThen_ok, hf, hname, hb]
    rfl
  rw [hrun]
  refine calls_of_wp hf hb ?_
  have hk : Knows fn.ntmps (argF 0 args) { tmps := args.toArray ++ Array.replicate (fn.ntmps - args.toArray.size) undef, defers := [] } := by
    refine ⟨rfl, by simp; omega, fun t v ht => ?_⟩
    obtain ⟨_, h2⟩ := look_argF args 0 t v ht
    have h2' : args[t]? = some v := by simpa using h2
    have hlt : t < args.length := (List.getElem?_eq_some_iff.1 h2').1
    rw [Array.getElem?_append_left (by simpa using hlt)]
    simpa using h2'
  refine wp_mono (VC.sound (G := G) c _ os fs _ hok h _ w hk hw) ?_
  rintro e a' w' ⟨f', os', fs', hk', hw', hq⟩
  have fin : RetK P f' K fn.results.toList [] os' fs' → a'.defers = [] ∧ ∃ v, (results fn a'.tmps).run P w' = .ok v w' ∧
      ∃ v1, Ending.returned v = .returned v1 ∧ ∃ os' fs', K v1 os' fs' ∧ Holds G os' fs' w' := fun hq => by
    obtain ⟨vs, os1, fs1, h1, h2, h3⟩ := RetK.sound hk' _ _ _ _ hq hw'
    exact ⟨hk'.defers, _, results_run h1, _, rfl, os1, fs1, by simpa using h2, h3⟩
  cases e with
  | normal => exact fin hq
  | ret => exact fin hq
  | exit id => exact hq.elim
  | goto l => exact hq.elim
  | panic ch => exact hq.elim
  | outgrown => exact hq.elim
def wsl (v : Value) (j m : Nat) : Value :=
  match v with
  | .slice (some a) _ _ => .slice (some (a.add (j * 1))) m m
  | _ => undef
theorem ownU_ne {G : Ctx} {os : List Own} {fs : List Fact} {w : World} (hw : Holds G os fs w) {pos : Nat} {u : Value} {l : List Nat} (h : nthOwn os pos = some (ownU u l)) (hs : isSl u) (hl : 0 < l.length) :
    ∃ r cap, u = .slice (some ⟨r, 0, none⟩) l.length cap ∧ l.length ≤ cap := by
  rcases hw.own _ (nthOwn_mem h) 0 Nat.zero_lt_one with ⟨_, h2⟩ | ⟨r, cap, h1, _, h2, _⟩ | ⟨r, h1, _⟩ | ⟨h2, _⟩
  rotate_right
  · simp only [ownU, own1] at h2; omega
  · simp only [ownU, own1] at h2; omega
  · exact ⟨r, cap, h1, h2⟩
  · obtain ⟨_, _, _, rfl⟩ := hs; simp [ownU, own1] at h1
theorem win_rule {P : Program} {t e : TypeId} {u : Value} {l : List Nat} {k1 k2 k3 : IntKind} {x y z : Int} {os : List Own} {fs : List Fact} {K : Cont} [ht : TSl P t e 1] (pos : Nat) (h : nthOwn os pos = some (ownU u l)) (hs : isSl u)
    (j m : Nat) (hx : x = (j : Int)) (hy : y = ((j + m : Nat) : Int)) (hz : z = ((j + m : Nat) : Int)) (hm : 0 < m) (hl : j + m ≤ l.length)
    (k : K (wsl u j m) os fs) : SliceK P t u (some (.int k1 x)) (some (.int k2 y)) (some (.int k3 z)) os fs K := by
  subst hx hy hz
  refine ⟨fun G w hw => ?_⟩
  obtain ⟨r, cap, rfl, hc⟩ := ownU_ne hw h hs (by omega)
  refine ⟨_, fs, fun w' _ => val_run (v := .slice (some (Addr.add ⟨r, 0, none⟩ (j * 1))) m m) ?_, k, hw⟩
  have h1 : ((j : Int) ≤ ((j + m : Nat) : Int)) := by omega
  have h2 : (((j + m : Nat) : Int) ≤ (cap : Int)) := by omega
  have h3 : j + m ≠ j := by omega
  have h1' : ((j : Int) ≤ (j : Int) + (m : Int)) := by omega
  have h2' : ((j : Int) + (m : Int) ≤ (cap : Int)) := by omega
  have h5 : (0 : Int) ≤ (j : Int) + (m : Int) := by omega
  have h6 : ((j : Int) + (m : Int)).toNat = j + m := by omega
  have h7 : m ≠ 0 := by omega
  simp [Instr.sliceAt, run_underlying ht.und, Instr.slice, Instr.sliceBounds, Instr.sliceBound, asIntOf, h1', h2', h5, h6, h7, run_sizeOf ht.size]
theorem index_w {P : Program} {t e : TypeId} {u : Value} {l : List Nat} {kk : IntKind} {x : Int} {os : List Own} {fs : List Fact} {K : Cont} [ht : TSl P t e 1] (pos : Nat) (h : nthOwn os pos = some (ownU u l)) (hs : isSl u)
    {j m : Nat} (i : Nat) (hx : x = (i : Int)) (hi : i < m) (hl : j + m ≤ l.length) (k : K (eptr u ((j + i) * 1)) os fs) : IndexAddrK P t (wsl u j m) (.int kk x) os fs K := by
  subst hx
  refine ⟨fun G w hw => ?_⟩
  obtain ⟨r, cap, rfl, hc⟩ := ownU_ne hw h hs (by omega)
  refine ⟨_, fs, fun w' _ => val_run ?_, k, hw⟩
  simp only [wsl]
  rw [indexAt_run ht _ _ _ _ _ (by omega) (by omega) w']
  simp [eptr, add_none]
def win (l : List Nat) (j m : Nat) : List Nat := (l.drop j).take m
theorem win_set {l : List Nat} {j i s : Nat} (h : j + i < l.length) : nv (win (l.set (j + i) s) j (i + 1)) = nv (win l j i) + 18446744073709551616 ^ i * s := by
  unfold win
  rw [List.drop_set, if_neg (by omega), show j + i - j = i by omega]
  exact nv_take_set (by simp; omega)
theorem win_succ (l : List Nat) (j i : Nat) : nv (win l j (i + 1)) = nv (win l j i) + 18446744073709551616 ^ i * l.getD (j + i) 0 := by
  unfold win
  rw [nv_take_succ]
  simp [List.getD_eq_getElem?_getD, List.getElem?_drop]
theorem takes_eq {Sn So P s c c' x V b b' t : Nat} (h : Sn + t * V = So + P * (b + c)) (hs : s + x * t + c + b = c' + 18446744073709551616 * b') (o : Nat) (ho : c' = o) :
    (Sn + P * s) + t * (V + P * x) = (So + P * o) + P * 18446744073709551616 * b' := by
  subst ho
  have e : P * s + t * (P * x) + P * (b + c) = P * c' + P * 18446744073709551616 * b' := by
    have : t * (P * x) = P * (x * t) := by rw [Nat.mul_left_comm, Nat.mul_comm t]
    rw [this, ← Nat.mul_add, ← Nat.mul_add, Nat.mul_assoc, ← Nat.mul_add]
    congr 1
    omega
  rw [Nat.mul_add]
  omega
theorem takes_call {K : Cont} {os : List Own} {fs : List Fact} (pos : Nat) {u v : Value} {l0 vl : List Nat} {j n t : Nat} (h : nthOwn os pos = some (ownU u l0)) (hs : isSl u) (hv : (v, U vl) ∈ fs) (hn : vl.length = n)
    (hl0 : Lim l0) (hvl : Lim vl) (hj : j + (n + 1) ≤ l0.length) (ll : l0.length ≤ 1099511627777) (ht : t < 18446744073709551616)
    (k : ∀ l' b, l'.length = l0.length → Lim l' → (∀ x, x < j ∨ j + n < x → l'.getD x 0 = l0.getD x 0) → b ≤ 1 → nv (win l' j (n + 1)) + t * nv vl = nv (win l0 j (n + 1)) + 18446744073709551616 ^ (n + 1) * b →
      K (.bool (decide (b ≠ 0))) (setOwn os pos (ownU u l')) fs) : CallK Tryz.prog false (.func (.func 196) #[] #[]) [wsl u j (n + 1), v, .int .u64 (t : Int)] os fs K := by
  refine call_inline Tryz.func196 (by kernel_rfl) rfl (by kernel_rfl) (Nat.le_of_ble_eq_true rfl) ?_
  refine len_fact hv fun _ => ?_
  refine loop_rule (X := Nat × List Nat × Nat × Nat) (fun x => ([(0, wsl u j (n + 1)), (1, v), (2, .int .u64 (t : Nat)), (7, .int .u64 (x.2.2.1 : Nat)), (8, .int .u64 (x.2.2.2 : Nat)), (14, v), (15, .int .i64 (vl.length : Nat)), (16, .int .i64 (x.1 : Nat))], setOwn os pos (ownU u x.2.1), fs))
    (fun x => x.1 ≤ n ∧ x.2.1.length = l0.length ∧ Lim x.2.1 ∧ x.2.2.1 ≤ 1 ∧ x.2.2.2 < 18446744073709551616 ∧ (∀ y, y < j ∨ j + x.1 ≤ y → x.2.1.getD y 0 = l0.getD y 0) ∧
      nv (win x.2.1 j x.1) + t * nv (vl.take x.1) = nv (win l0 j x.1) + 18446744073709551616 ^ x.1 * (x.2.2.1 + x.2.2.2)) (fun x => n - x.1) rfl ?_ ?_
  · exact again (0, l0, 0, 0) ⟨Nat.zero_le _, rfl, hl0, by simp, by simp, fun _ _ => rfl, by simp [win, nv]⟩ trivial qF (by simp only; rw [set_same h]; exact Seals.refl _ _)
  · rintro ⟨i, l, b, c⟩ ⟨h1, h2, h3, h4, h5, h6, h7⟩
    simp only at h1 h2 h3 h4 h5 h6 h7 ⊢
    have hn' : nthOwn (setOwn os pos (ownU u l)) pos = some (ownU u l) := nth_set h
    refine cmp_split _ rfl (fun hc => ?_) (fun hc => ?_)
    · have hx := hvl.get i
      have hui := hl0.get (j + i)
      refine index_fact hv i rfl (by omega) fun p => ?_
      refine load_one qM ?_
      refine call_fn (mul64_meets (vl.getD i 0) t hx ht) (Seals.refl _ _) qS ?_
      rintro _ _ _ ⟨rfl, rfl, rfl⟩
      have hp : vl.getD i 0 * t ≤ 18446744073709551615 * 18446744073709551615 := Nat.mul_le_mul (by omega) (by omega)
      have hstep := fun (s c' b' : Nat) => takes_eq (P := 18446744073709551616 ^ i) (x := vl.getD i 0) (s := s) (c' := c') (b' := b') h7
      generalize vl.getD i 0 * t = q at *
      refine add64_rule (q % 18446744073709551616) c 0 rfl rfl rfl (by decide) ?_
      refine ar_wrap rfl ((q / 18446744073709551616 + (q % 18446744073709551616 + c + 0) / 18446744073709551616 : Nat) : Int) (by rw [← Int.natCast_add]; exact wrap_in ⟨Int.natCast_nonneg _, by omega⟩) ?_
      refine index_w pos hn' hs i rfl (by omega) (by omega) ?_
      refine load_U pos hn' (j + i) (by omega) ?_
      rw [h6 _ (.inr (Nat.le_refl _))]
      refine sub64_rule (l0.getD (j + i) 0) ((q % 18446744073709551616 + c + 0) % 18446744073709551616) b rfl rfl rfl h4 ?_
      refine index_w pos hn' hs i rfl (by omega) (by omega) ?_
      refine store_U pos hn' _ rfl (by omega) ?_
      refine ar rfl qI ?_
      refine again (i + 1, l.set (j + i) ((l0.getD (j + i) 0 + 18446744073709551616 - (q % 18446744073709551616 + c + 0) % 18446744073709551616 - b) % 18446744073709551616), if l0.getD (j + i) 0 < (q % 18446744073709551616 + c + 0) % 18446744073709551616 + b then 1 else 0, q / 18446744073709551616 + (q % 18446744073709551616 + c + 0) / 18446744073709551616)
        ⟨by omega, by simp [h2], h3.set _ (by omega), by simp only; split <;> omega, by simp only; omega, fun y hy => ?_, ?_⟩ (by simp only; omega) qF (by rw [set_set]; exact Seals.sub (fun F hF => by simp [hF]))
      · simp only at hy ⊢
        rw [getD_set (by omega), if_neg (by omega)]; exact h6 y (by omega)
      · simp only
        rw [win_set (by omega), win_succ, nv_take_succ, Nat.pow_succ]
        exact hstep _ _ _ (by split <;> omega) _ rfl
    · have hi : i = n := by omega
      subst hi
      have hun := hl0.get (j + i)
      refine len_fact hv fun _ => ?_
      refine len_fact hv fun _ => ?_
      refine index_w pos hn' hs i (by omega) (by omega) (by omega) ?_
      refine load_U pos hn' (j + i) (by omega) ?_
      rw [h6 _ (.inr (Nat.le_refl _))]
      refine sub64_rule (l0.getD (j + i) 0) c b rfl rfl rfl h4 ?_
      refine index_w pos hn' hs i (by omega) (by omega) (by omega) ?_
      refine store_U pos hn' _ rfl (by omega) ?_
      rw [set_set]
      have hk := k (l.set (j + i) ((l0.getD (j + i) 0 + 18446744073709551616 - c - b) % 18446744073709551616)) (if l0.getD (j + i) 0 < c + b then 1 else 0) (by simp [h2]) (h3.set _ (by omega)) (fun y hy => by rw [getD_set (by omega), if_neg (by omega)]; exact h6 y (by omega)) (by split <;> omega) (by
        rw [win_set (by omega), win_succ, Nat.pow_succ]
        rw [List.take_of_length_le (by omega)] at h7
        have := takes_eq (P := 18446744073709551616 ^ i) (x := 0) (s := (l0.getD (j + i) 0 + 18446744073709551616 - c - b) % 18446744073709551616) (b' := if l0.getD (j + i) 0 < c + b then 1 else 0) (c' := l0.getD (j + i) 0) h7 (by split <;> omega) _ rfl
        simpa using this)
      refine cmp_split _ rfl (fun hz => ?_) (fun hz => ?_)
      · refine fin ?_ (Seals.sub (fun F hF => by simpa using hF))
        have : ((if l0.getD (j + i) 0 < c + b then 1 else 0 : Nat) ≠ 0) := by omega
        rw [show decide ((if l0.getD (j + i) 0 < c + b then 1 else 0 : Nat) ≠ 0) = true from decide_eq_true this] at hk
        exact hk
      · refine fin ?_ (Seals.sub (fun F hF => by simpa using hF))
        have : ¬ ((if l0.getD (j + i) 0 < c + b then 1 else 0 : Nat) ≠ 0) := by omega
        rw [show decide ((if l0.getD (j + i) 0 < c + b then 1 else 0 : Nat) ≠ 0) = false from decide_eq_false this] at hk
        exact hk
theorem gives_eq {Sn So P s c c' x V : Nat} (h : Sn + P * c = So + V) (o : Nat) (hs : s + 18446744073709551616 * c' = o + x + c) :
    (Sn + P * s) + P * 18446744073709551616 * c' = (So + P * o) + (V + P * x) := by
  have e : P * s + P * 18446744073709551616 * c' = P * o + P * x + P * c := by rw [Nat.mul_assoc, ← Nat.mul_add, hs, Nat.mul_add, Nat.mul_add]
  omega
theorem gives_call {K : Cont} {os : List Own} {fs : List Fact} (pos : Nat) {u v : Value} {l0 vl : List Nat} {j n : Nat} (h : nthOwn os pos = some (ownU u l0)) (hs : isSl u) (hv : (v, U vl) ∈ fs) (hn : vl.length = n)
    (hl0 : Lim l0) (hvl : Lim vl) (hj : j + (n + 1) ≤ l0.length) (ll : l0.length ≤ 1099511627777)
    (k : ∀ l' b, l'.length = l0.length → Lim l' → (∀ x, x < j ∨ j + n < x → l'.getD x 0 = l0.getD x 0) → b ≤ 1 → nv (win l' j (n + 1)) + 18446744073709551616 ^ (n + 1) * b = nv (win l0 j (n + 1)) + nv vl →
      K (.tuple #[]) (setOwn os pos (ownU u l')) fs) : CallK Tryz.prog false (.func (.func 197) #[] #[]) [wsl u j (n + 1), v] os fs K := by
  refine call_inline Tryz.func197 (by kernel_rfl) rfl (by kernel_rfl) (Nat.le_of_ble_eq_true rfl) ?_
  refine len_fact hv fun _ => ?_
  refine loop_rule (X := Nat × List Nat × Nat) (fun x => ([(0, wsl u j (n + 1)), (1, v), (4, .int .u64 (x.2.2 : Nat)), (7, v), (8, .int .i64 (vl.length : Nat)), (9, .int .i64 (x.1 : Nat))], setOwn os pos (ownU u x.2.1), fs))
    (fun x => x.1 ≤ n ∧ x.2.1.length = l0.length ∧ Lim x.2.1 ∧ x.2.2 ≤ 1 ∧ (∀ y, y < j ∨ j + x.1 ≤ y → x.2.1.getD y 0 = l0.getD y 0) ∧
      nv (win x.2.1 j x.1) + 18446744073709551616 ^ x.1 * x.2.2 = nv (win l0 j x.1) + nv (vl.take x.1)) (fun x => n - x.1) rfl ?_ ?_
  · exact again (0, l0, 0) ⟨Nat.zero_le _, rfl, hl0, by simp, fun _ _ => rfl, by simp [win, nv]⟩ trivial qF (by simp only; rw [set_same h]; exact Seals.refl _ _)
  · rintro ⟨i, l, c⟩ ⟨h1, h2, h3, h4, h6, h7⟩
    simp only at h1 h2 h3 h4 h6 h7 ⊢
    have hn' : nthOwn (setOwn os pos (ownU u l)) pos = some (ownU u l) := nth_set h
    refine cmp_split _ rfl (fun hc => ?_) (fun hc => ?_)
    · have hx := hvl.get i
      have hui := hl0.get (j + i)
      refine index_fact hv i rfl (by omega) fun p => ?_
      refine load_one qM ?_
      refine index_w pos hn' hs i rfl (by omega) (by omega) ?_
      refine load_U pos hn' (j + i) (by omega) ?_
      rw [h6 _ (.inr (Nat.le_refl _))]
      refine add64_rule (l0.getD (j + i) 0) (vl.getD i 0) c rfl rfl rfl h4 ?_
      refine index_w pos hn' hs i rfl (by omega) (by omega) ?_
      refine store_U pos hn' _ rfl (by omega) ?_
      refine ar rfl qI ?_
      refine again (i + 1, l.set (j + i) ((l0.getD (j + i) 0 + vl.getD i 0 + c) % 18446744073709551616), (l0.getD (j + i) 0 + vl.getD i 0 + c) / 18446744073709551616)
        ⟨by omega, by simp [h2], h3.set _ (by omega), by simp only; omega, fun y hy => ?_, ?_⟩ (by simp only; omega) qF (by rw [set_set]; exact Seals.sub (fun F hF => by simp [hF]))
      · simp only at hy ⊢
        rw [getD_set (by omega), if_neg (by omega)]; exact h6 y (by omega)
      · simp only
        rw [win_set (by omega), win_succ, nv_take_succ, Nat.pow_succ]
        exact gives_eq h7 _ (Nat.mod_add_div _ _)
    · have hi : i = n := by omega
      subst hi
      have hun := hl0.get (j + i)
      refine len_fact hv fun _ => ?_
      refine index_w pos hn' hs i (by omega) (by omega) (by omega) ?_
      refine load_U pos hn' (j + i) (by omega) ?_
      rw [h6 _ (.inr (Nat.le_refl _))]
      refine ar_wrap rfl (((l0.getD (j + i) 0 + c) % 18446744073709551616 : Nat) : Int) (by rw [wrap_u64]; omega) ?_
      refine index_w pos hn' hs i (by omega) (by omega) (by omega) ?_
      refine store_U pos hn' _ rfl (by omega) ?_
      rw [set_set]
      refine fin (k (l.set (j + i) ((l0.getD (j + i) 0 + c) % 18446744073709551616)) ((l0.getD (j + i) 0 + c) / 18446744073709551616) (by simp [h2]) (h3.set _ (by omega)) (fun y hy => by rw [getD_set (by omega), if_neg (by omega)]; exact h6 y (by omega)) (by omega) ?_) (Seals.sub (fun F hF => by simpa using hF))
      rw [win_set (by omega), win_succ, Nat.pow_succ]
      rw [List.take_of_length_le (by omega)] at h7
      have := gives_eq (P := 18446744073709551616 ^ i) (x := 0) h7 (l0.getD (j + i) 0) (s := (l0.getD (j + i) 0 + c) % 18446744073709551616) (c' := (l0.getD (j + i) 0 + c) / 18446744073709551616) (by omega)
      simpa using this
open Go.RowKit
def takeC : Nat → Code → Code
  | 0, _ => .skip
  | k + 1, c => match c with
    | .seq a b => .seq a (takeC k b)
    | c => c
def dropC : Nat → Code → Code
  | 0, c => c
  | k + 1, c => match c with
    | .seq _ b => dropC k b
    | _ => .skip
def cutN {Y : Type} (J : Y → Fr × List Own × List Fact) (okJ : Y → Prop) (Q : Post) : Post
  | .normal => fun f os fs => AtK J okJ f os fs fun _ => True
  | e => Q e
theorem VC.sound2 {P : Program} {N : Nat} {G : Ctx} {Q : Post} {Y : Type} (J : Y → Fr × List Own × List Fact) (okJ : Y → Prop) :
    ∀ (k : Nat) (c : Code) (f : Fr) (os : List Own) (fs : List Fact), codeOK N c = true → VC P N (takeC k c) f os fs (cutN J okJ Q) →
      (∀ y, okJ y → VC P N (dropC k c) (J y).1 (J y).2.1 (J y).2.2 Q) →
      ∀ (a : Act) (w : World), Knows N f a → Holds G os fs w → c.wp P (Qhat N G Q) a w := by
  intro k
  induction k with
  | zero =>
    intro c f os fs hok h h2 a w hk hw
    obtain ⟨⟨y, hy, _, g1, g2⟩⟩ := h
    exact VC.sound c _ _ _ Q hok (h2 y hy) a w (hk.sub g1) (g2 G w hw)
  | succ k ih =>
    intro c f os fs hok h h2 a w hk hw
    have other : ∀ (c : Code), codeOK N c = true → VC P N c f os fs (cutN J okJ Q) → (∀ y, okJ y → VC P N .skip (J y).1 (J y).2.1 (J y).2.2 Q) → c.wp P (Qhat N G Q) a w := by
      intro c hok h h2
      refine wp_mono (VC.sound (G := G) c f os fs _ hok h a w hk hw) ?_
      rintro e a' w' ⟨f', os', fs', hk', hw', hq⟩
      cases e with
      | normal =>
        obtain ⟨⟨y, hy, _, g1, g2⟩⟩ := hq
        exact ⟨_, _, _, hk'.sub g1, g2 G w' hw', h2 y hy⟩
      | exit id => exact ⟨f', os', fs', hk', hw', hq⟩
      | goto l => exact ⟨f', os', fs', hk', hw', hq⟩
      | ret => exact ⟨f', os', fs', hk', hw', hq⟩
      | panic ch => exact ⟨f', os', fs', hk', hw', hq⟩
      | outgrown => exact ⟨f', os', fs', hk', hw', hq⟩
    cases c with
    | seq x y =>
      simp only [codeOK, Bool.and_eq_true] at hok
      refine wp_seq (wp_mono (VC.sound (G := G) x f os fs (thenQ (fun f os fs => VC P N (takeC k y) f os fs (cutN J okJ Q)) (cutN J okJ Q)) hok.1 h a w hk hw) ?_)
      rintro e a' w' ⟨f', os', fs', hk', hw', hq⟩
      cases e with
      | normal => exact ih y f' os' fs' hok.2 hq h2 a' w' hk' hw'
      | exit id => exact ⟨f', os', fs', hk', hw', hq⟩
      | goto l => exact ⟨f', os', fs', hk', hw', hq⟩
      | ret => exact ⟨f', os', fs', hk', hw', hq⟩
      | panic ch => exact ⟨f', os', fs', hk', hw', hq⟩
      | outgrown => exact ⟨f', os', fs', hk', hw', hq⟩
    | skip => exact other _ hok h h2
    | region id ops d => exact other _ hok h h2
    | cond c x y => exact other _ hok h h2
    | block id c => exact other _ hok h h2
    | loop c => exact other _ hok h h2
    | exit id => exact other _ hok h h2
    | scope c => exact other _ hok h h2
    | label l => exact other _ hok h h2
    | ret => exact other _ hok h h2
    | goto l => exact other _ hok h h2
    | refuse r => exact other _ hok h h2
    | rangeFunc a b c d => exact other _ hok h h2
theorem inline_wp {P : Program} {g : FuncId} {fn : Func} {c : Code} {args : List Value} {os : List Own} {fs : List Fact} {K : Cont}
    (hf : P.funcs[g]? = some fn) (hname : (fn.name == "runtime.NumGoroutine") = false) (hb : fn.body = some c) (hn : args.length ≤ fn.ntmps)
    (h : ∀ G (a : Act) w, Knows fn.ntmps (argF 0 args) a → Holds G os fs w → c.wp P (Qhat fn.ntmps G (retQ P fn K)) a w) : CallK P false (.func (.func g) #[] #[]) args os fs K := by
  refine ⟨fun G w hw => ?_, fun h => by cases h⟩
  have hrun : (do let x ← Deferred.ofValue (.func (.func g) #[] #[]) args.toArray; invoke x.target x.args : Sem Next).run P w = .ok (.enter g args.toArray) w := by
    simp only [Deferred.ofValue, pure_bind, invoke, Array.empty_append, Array.append_empty]
    simp only [callFunc, Sem.run_bind, run_program, Result.andThen_ok, hf, hname, hb]
    rfl
  rw [hrun]
  refine calls_of_wp hf hb ?_
  have hk : Knows fn.ntmps (argF 0 args) { tmps := args.toArray ++ Array.replicate (fn.ntmps - args.toArray.size) undef, defers := [] } := by
    refine ⟨rfl, by simp; omega, fun t v ht => ?_⟩
    obtain ⟨_, h2⟩ := look_argF args 0 t v ht
    have h2' : args[t]? = some v := by simpa using h2
    have hlt : t < args.length := (List.getElem?_eq_some_iff.1 h2').1
    rw [Array.getElem?_append_left (by simpa using hlt)]
    simpa using h2'
  refine wp_mono (h G _ w hk hw) ?_
  rintro e a' w' ⟨f', os', fs', hk', hw', hq⟩
  have fin : RetK P f' K fn.results.toList [] os' fs' → a'.defers = [] ∧ ∃ v, (results fn a'.tmps).run P w' = .ok v w' ∧
      ∃ v1, Ending.returned v = .returned v1 ∧ ∃ os' fs', K v1 os' fs' ∧ Holds G os' fs' w' := fun hq => by
    obtain ⟨vs, os1, fs1, h1, h2, h3⟩ := RetK.sound hk' _ _ _ _ hq hw'
    exact ⟨hk'.defers, _, results_run h1, _, rfl, os1, fs1, by simpa using h2, h3⟩
  cases e with
  | normal => exact fin hq
  | ret => exact fin hq
  | exit id => exact hq.elim
  | goto l => exact hq.elim
  | panic ch => exact hq.elim
  | outgrown => exact hq.elim
theorem inline_cut {P : Program} {g : FuncId} {fn : Func} {c : Code} {args : List Value} {os : List Own} {fs : List Fact} {K : Cont} {Y : Type} (k : Nat) (J : Y → Fr × List Own × List Fact) (okJ : Y → Prop)
    (hf : P.funcs[g]? = some fn) (hname : (fn.name == "runtime.NumGoroutine") = false) (hb : fn.body = some c) (hok : codeOK fn.ntmps c = true) (hn : args.length ≤ fn.ntmps)
    (h1 : VC P fn.ntmps (takeC k c) (argF 0 args) os fs (cutN J okJ (retQ P fn K)))
    (h2 : ∀ y, okJ y → VC P fn.ntmps (dropC k c) (J y).1 (J y).2.1 (J y).2.2 (retQ P fn K)) : CallK P false (.func (.func g) #[] #[]) args os fs K :=
  inline_wp hf hname hb hn fun _ a w hk hw => VC.sound2 J okJ k c _ os fs hok h1 h2 a w hk hw
def bodyOf (fn : Func) : Code :=
  match fn.body with
  | some c => c
  | none => .skip
theorem meets_wp {P : Program} {g : FuncId} {fn : Func} {c : Code} {args : List Value} {fs : List Fact} {R : Value → List Own → List Fact → Prop}
    (hf : P.funcs[g]? = some fn) (hname : (fn.name == "runtime.NumGoroutine") = false) (hb : fn.body = some c) (hn : args.length ≤ fn.ntmps)
    (h : ∀ G (a : Act) w, Knows fn.ntmps (argF 0 args) a → Holds G [] fs w → c.wp P (Qhat fn.ntmps G (retQ P fn R)) a w) : Meets P g args fs R := by
  refine ⟨fun xs w => ?_, fun A w hA hfs => ?_⟩
  · simp only [callFunc, Sem.run_bind, run_program, Result.andThen_ok, hf, hname, hb]
    rfl
  · refine calls_of_wp hf hb ?_
    have hk : Knows fn.ntmps (argF 0 args) { tmps := args.toArray ++ Array.replicate (fn.ntmps - args.toArray.size) undef, defers := [] } := by
      refine ⟨rfl, by simp; omega, fun t v ht => ?_⟩
      obtain ⟨_, h2⟩ := look_argF args 0 t v ht
      have h2' : args[t]? = some v := by simpa using h2
      have hlt : t < args.length := (List.getElem?_eq_some_iff.1 h2').1
      rw [Array.getElem?_append_left (by simpa using hlt)]
      simpa using h2'
    have hw : Holds ⟨A, w.heap.size, w⟩ [] fs w := by
      refine ⟨hA, Nat.le_refl _, Below.refl _ _, trivial, fun o ho => (by cases ho), ?_⟩
      exact hfs.mono (fun _ _ => rfl) fun b ⟨h1, h2⟩ => ⟨h1, h2, fun h => h⟩
    refine wp_mono (h ⟨A, w.heap.size, w⟩ _ w hk hw) ?_
    rintro e a' w' ⟨f', os', fs', hk', hw', hq⟩
    have fin : RetK P f' R fn.results.toList [] os' fs' → a'.defers = [] ∧ ∃ v, (results fn a'.tmps).run P w' = .ok v w' ∧
        ∃ v1 os' fs', Ending.returned v = .returned v1 ∧ R v1 os' fs' ∧ Holds ⟨A, w.heap.size, w⟩ os' fs' w' := fun hq => by
      obtain ⟨vs, os1, fs1, h1, h2, h3⟩ := RetK.sound hk' _ _ _ _ hq hw'
      exact ⟨hk'.defers, _, results_run h1, _, os1, fs1, rfl, by simpa using h2, h3⟩
    cases e with
    | normal => exact fin hq
    | ret => exact fin hq
    | exit id => exact hq.elim
    | goto l => exact hq.elim
    | panic ch => exact hq.elim
    | outgrown => exact hq.elim
theorem meets_cut {P : Program} {g : FuncId} {fn : Func} {c : Code} {args : List Value} {fs : List Fact} {R : Value → List Own → List Fact → Prop} {Y : Type} (k : Nat) (J : Y → Fr × List Own × List Fact) (okJ : Y → Prop)
    (hf : P.funcs[g]? = some fn) (hname : (fn.name == "runtime.NumGoroutine") = false) (hb : fn.body = some c) (hok : codeOK fn.ntmps c = true) (hn : args.length ≤ fn.ntmps)
    (h1 : VC P fn.ntmps (takeC k c) (argF 0 args) [] fs (cutN J okJ (retQ P fn R)))
    (h2 : ∀ y, okJ y → VC P fn.ntmps (dropC k c) (J y).1 (J y).2.1 (J y).2.2 (retQ P fn R)) : Meets P g args fs R :=
  meets_wp hf hname hb hn fun _ a w hk hw => VC.sound2 J okJ k c _ [] fs hok h1 h2 a w hk hw
open Go.RowKit
structure KN (B P ul u0 u1 u2 vw v2 v1 U V : Nat) : Prop where
  hU : U = ul + P * (u0 + B * (u1 + B * u2))
  hV : V = vw + P * (v2 + B * v1)
  hul : ul < P
  hvw : vw < P
  hu0 : u0 < B
  hu1 : u1 < B
  hv2 : v2 < B
  hv1 : v1 < B
  htop : B ≤ 2 * v1
  hlt : U < B * V
theorem KN.high {B P ul u0 u1 u2 vw v2 v1 U V g r : Nat} (h : KN B P ul u0 u1 u2 vw v2 v1 U V) (hg : g * v1 + r = u2 * B + u1) (ht : r * B + u0 < g * v2) : U < g * V := by
  obtain ⟨hU, hV, hul, hvw, hu0, hu1, hv2, hv1, htop, hlt⟩ := h
  have e1 : U < P * (u0 + B * (u1 + B * u2) + 1) := by rw [hU, Nat.mul_add P _ 1]; omega
  have e2 : u0 + B * (u1 + B * u2) + 1 ≤ g * (v2 + B * v1) := by
    rw [Nat.add_comm u1, Nat.mul_comm B u2, ← hg, Nat.mul_add, Nat.mul_add, Nat.mul_comm B r, Nat.mul_left_comm g B v1]
    omega
  have e3 : P * (u0 + B * (u1 + B * u2) + 1) ≤ P * (g * (v2 + B * v1)) := Nat.mul_le_mul_left _ e2
  have e4 : g * V = g * vw + P * (g * (v2 + B * v1)) := by rw [hV, Nat.mul_add, Nat.mul_left_comm g P]
  omega
theorem KN.vhi {B P ul u0 u1 u2 vw v2 v1 U V : Nat} (h : KN B P ul u0 u1 u2 vw v2 v1 U V) : V < P * (B * (v1 + 1)) := by
  obtain ⟨hU, hV, hul, hvw, hu0, hu1, hv2, hv1, htop, hlt⟩ := h
  have e : P * (v2 + B * v1 + 1) ≤ P * (B * (v1 + 1)) := Nat.mul_le_mul_left _ (by rw [Nat.mul_add]; omega)
  rw [hV]
  rw [Nat.mul_add P _ 1] at e
  omega
theorem KN.vlo {B P ul u0 u1 u2 vw v2 v1 U V : Nat} (h : KN B P ul u0 u1 u2 vw v2 v1 U V) : P * (B * v1) ≤ V := by
  rw [h.hV, Nat.mul_add]; omega
theorem KN.ulo {B P ul u0 u1 u2 vw v2 v1 U V : Nat} (h : KN B P ul u0 u1 u2 vw v2 v1 U V) : P * (B * (u2 * B + u1)) ≤ U := by
  have e : u1 + B * u2 = u2 * B + u1 := by rw [Nat.mul_comm B, Nat.add_comm]
  rw [h.hU, e, Nat.mul_add P u0]; omega
theorem KN.over {B P ul u0 u1 u2 vw v2 v1 U V g : Nat} (h : KN B P ul u0 u1 u2 vw v2 v1 U V) (h1 : g * v1 ≤ u2 * B + u1) (h2 : g ≤ B) (hg : 0 < g) : g * V < U + 2 * V := by
  have a := h.vhi
  have b := h.vlo
  have c := h.ulo
  have e1 : g * V < g * (P * (B * (v1 + 1))) := Nat.mul_lt_mul_of_pos_left a hg
  have e2 : g * (P * (B * (v1 + 1))) = P * (B * (g * v1)) + P * (B * g) := by
    rw [Nat.mul_left_comm, Nat.mul_left_comm g B, Nat.mul_add, Nat.mul_one, Nat.mul_add, Nat.mul_add]
  have e3 : P * (B * (g * v1)) ≤ P * (B * (u2 * B + u1)) := Nat.mul_le_mul_left _ (Nat.mul_le_mul_left _ h1)
  have e4 : P * (B * g) ≤ P * (B * (2 * v1)) := Nat.mul_le_mul_left _ (Nat.mul_le_mul_left _ (Nat.le_trans h2 h.htop))
  have e5 : P * (B * (2 * v1)) = 2 * (P * (B * v1)) := by rw [Nat.mul_left_comm B, Nat.mul_left_comm P]
  omega
theorem KN.first {B P ul u0 u1 u2 vw v2 v1 U V : Nat} (h : KN B P ul u0 u1 u2 vw v2 v1 U V) (hlt : u2 < v1) :
    U < ((u2 * B + u1) / v1 + 1) * V ∧ (u2 * B + u1) / v1 * V < U + 2 * V ∧ (u2 * B + u1) / v1 < B := by
  have hd := Nat.div_add_mod (u2 * B + u1) v1
  have hm := Nat.mod_lt (u2 * B + u1) (show 0 < v1 by omega)
  have hB : (u2 * B + u1) / v1 < B := by
    rw [Nat.div_lt_iff_lt_mul (by omega)]
    have := Nat.mul_le_mul_right B (Nat.succ_le_of_lt hlt)
    rw [Nat.succ_mul] at this
    have := h.hu1
    rw [Nat.mul_comm B v1]
    omega
  have hVp : 0 < V := by
    have := h.vlo
    have : 0 < P * (B * v1) := Nat.mul_pos (by have := h.hul; omega) (Nat.mul_pos (by have := h.hu1; omega) (by omega))
    omega
  refine ⟨?_, ?_, hB⟩
  · have e1 : U < P * (B * (u2 * B + u1 + 1)) := by
      have : P * (u0 + B * (u1 + B * u2) + 1) ≤ P * (B * (u2 * B + u1 + 1)) := Nat.mul_le_mul_left _ (by
        rw [Nat.mul_add B _ 1, Nat.add_comm (u2 * B), Nat.mul_comm u2]; have := h.hu0; omega)
      rw [Nat.mul_add P _ 1] at this
      rw [h.hU]; have := h.hul; omega
    have e2 : u2 * B + u1 + 1 ≤ ((u2 * B + u1) / v1 + 1) * v1 := by
      rw [Nat.add_mul, Nat.mul_comm _ v1]; omega
    have e3 : P * (B * (u2 * B + u1 + 1)) ≤ P * (B * (((u2 * B + u1) / v1 + 1) * v1)) := Nat.mul_le_mul_left _ (Nat.mul_le_mul_left _ e2)
    have e4 : P * (B * (((u2 * B + u1) / v1 + 1) * v1)) = ((u2 * B + u1) / v1 + 1) * (P * (B * v1)) := by rw [Nat.mul_left_comm B, Nat.mul_left_comm P]
    have e5 : ((u2 * B + u1) / v1 + 1) * (P * (B * v1)) ≤ ((u2 * B + u1) / v1 + 1) * V := Nat.mul_le_mul_left _ h.vlo
    omega
  · rcases Nat.eq_zero_or_pos ((u2 * B + u1) / v1) with h0 | h0
    · rw [h0]; omega
    · exact h.over (by rw [Nat.mul_comm]; omega) (Nat.le_of_lt hB) h0
theorem KN.max {B P ul u0 u1 u2 vw v2 v1 U V : Nat} (h : KN B P ul u0 u1 u2 vw v2 v1 U V) (hle : v1 ≤ u2) : (B - 1) * V < U + 2 * V := by
  have h1 : 2 ≤ B ∨ B ≤ 1 := by omega
  rcases h1 with h1 | h1
  · refine h.over ?_ (by omega) (by omega)
    have : (B - 1) * v1 ≤ B * u2 := Nat.mul_le_mul (by omega) hle
    rw [Nat.mul_comm u2]; omega
  · have := h.hv1; have := h.htop; omega
theorem win_lt {l : List Nat} (h : Lim l) (j n : Nat) (hl : j + n ≤ l.length) : nv (win l j n) < 18446744073709551616 ^ n := by
  have := nv_lt ((h.drop j).take n)
  rw [List.length_take, List.length_drop, Nat.min_eq_left (by omega)] at this
  exact this
theorem kn_of {l vl : List Nat} {j m : Nat} (hl : Lim l) (hv : Lim vl) (hj : j + (m + 3) ≤ l.length) (hn : vl.length = m + 2) (ht : 9223372036854775808 ≤ vl.getD (m + 1) 0)
    (hlt : nv (win l j (m + 3)) < 18446744073709551616 * nv vl) :
    KN 18446744073709551616 (18446744073709551616 ^ m) (nv (win l j m)) (l.getD (j + m) 0) (l.getD (j + (m + 1)) 0) (l.getD (j + (m + 2)) 0) (nv (vl.take m)) (vl.getD m 0) (vl.getD (m + 1) 0) (nv (win l j (m + 3))) (nv vl) := by
  refine ⟨?_, ?_, win_lt hl j m (by omega), ?_, hl.get _, hl.get _, hv.get _, hv.get _, by omega, hlt⟩
  · rw [win_succ, win_succ, win_succ]
    simp only [Nat.pow_succ]
    generalize 18446744073709551616 ^ m = P
    rw [Nat.mul_add, Nat.mul_add, Nat.mul_add, Nat.mul_assoc, Nat.mul_assoc, Nat.mul_assoc]
    omega
  · have : nv vl = nv (vl.take (m + 2)) := by rw [List.take_of_length_le (by omega)]
    rw [this, nv_take_succ, nv_take_succ, Nat.pow_succ]
    generalize 18446744073709551616 ^ m = P
    rw [Nat.mul_add, Nat.mul_assoc]
    omega
  · have := nv_lt (hv.take m)
    rwa [List.length_take, Nat.min_eq_left (by omega)] at this
theorem give_step {A W V U T g b : Nat} (h : A + T * b = W + V) (h' : W + (g * V + V) = U + T) (hb : b ≤ 1) : A + g * V = U + T * (1 - b) := by
  obtain rfl | rfl : b = 0 ∨ b = 1 := by omega
  · rw [Nat.mul_zero] at h; rw [Nat.sub_zero, Nat.mul_one]; omega
  · rw [Nat.mul_one] at h; rw [Nat.sub_self, Nat.mul_zero]; omega
theorem top_none {W L Q t : Nat} (h : W = L + Q * t) (hw : W < Q) : t = 0 := by
  rcases Nat.eq_zero_or_pos t with h0 | h0
  · exact h0
  · have := Nat.le_mul_of_pos_right Q h0
    omega
theorem top_full {W L Q B t : Nat} (h : W = L + Q * t) (hl : L < Q) (hw : Q * B < W + Q) : B ≤ t + 1 := by
  refine Nat.le_of_not_lt fun hlt => ?_
  have := Nat.mul_le_mul_left Q (Nat.succ_le_of_lt hlt)
  rw [Nat.succ_eq_add_one, Nat.mul_add, Nat.mul_add, Nat.mul_one] at this
  omega
theorem digit_tail {K : Cont} {os : List Own} {fs : List Fact} (pos : Nat) {u v : Value} {l0 vl : List Nat} {j m : Nat} (h : nthOwn os pos = some (ownU u l0)) (hs : isSl u) (hv : (v, U vl) ∈ fs) (hn : vl.length = m + 2)
    (hl0 : Lim l0) (hvl : Lim vl) (hj : j + (m + 3) ≤ l0.length) (ll : l0.length ≤ 1099511627777) (htop : 9223372036854775808 ≤ vl.getD (m + 1) 0)
    (hlt : nv (win l0 j (m + 3)) < 18446744073709551616 * nv vl)
    (k : ∀ l' g, l'.length = l0.length → Lim l' → (∀ x, x < j ∨ j + (m + 2) < x → l'.getD x 0 = l0.getD x 0) → g < 18446744073709551616 → nv (win l' j (m + 3)) + g * nv vl = nv (win l0 j (m + 3)) →
      nv (win l' j (m + 3)) < nv vl → K (.int .u64 (g : Int)) (setOwn os pos (ownU u l')) fs)
    (g : Nat) (hB : g < 18446744073709551616) (hU : nv (win l0 j (m + 3)) < (g + 1) * nv vl) (hO : g * nv vl < nv (win l0 j (m + 3)) + 2 * nv vl) :
    VC Tryz.prog Tryz.f178.ntmps (dropC 4 (bodyOf Tryz.f178)) [(0, wsl u j (m + 3)), (1, v), (5, .int .i64 (vl.length : Nat)), (6, .int .u64 (g : Nat))] os fs (retQ Tryz.prog Tryz.f178 K) := by
  have hVlt : nv vl < 18446744073709551616 ^ (m + 2) := by rw [← hn]; exact nv_lt hvl
  refine takes_call pos h hs (by first | exact hv | exact .tail _ hv | exact .tail _ (.tail _ hv) | exact .tail _ (.tail _ (.tail _ hv)) | exact .tail _ (.tail _ (.tail _ (.tail _ hv)))) hn hl0 hvl hj ll (t := g) hB ?_
  intro l1 b e1 e2 e3 e4 e5
  replace e5 : nv (win l1 j (m + 3)) + g * nv vl = nv (win l0 j (m + 3)) + 18446744073709551616 ^ (m + 3) * b := e5
  obtain rfl | rfl : b = 0 ∨ b = 1 := by omega
  · rw [show decide ((0 : Nat) ≠ 0) = false from rfl]
    rw [Nat.mul_zero, Nat.add_zero] at e5
    have hlast : nv (win l1 j (m + 3)) < nv vl := by rw [Nat.add_mul, Nat.one_mul] at hU; omega
    exact fin (k l1 g e1 e2 e3 hB e5 hlast) (Seals.sub (fun F hF => by first | exact hF | exact .tail _ hF | exact .tail _ (.tail _ hF) | exact .tail _ (.tail _ (.tail _ hF)) | exact .tail _ (.tail _ (.tail _ (.tail _ hF)))))
  · rw [show decide ((1 : Nat) ≠ 0) = true from rfl]
    rw [Nat.mul_one] at e5
    have hwl := win_lt e2 j (m + 3) (by omega)
    have hg0 : g ≠ 0 := fun e => by rw [e, Nat.zero_mul, Nat.add_zero] at e5; omega
    obtain ⟨g', hg'⟩ : ∃ g', g' + 1 = g := ⟨g - 1, by omega⟩
    rw [← hg', Nat.add_mul, Nat.one_mul] at e5
    have hU0 : nv (win l0 j (m + 3)) < (g' + 1) * nv vl := by rw [Nat.add_mul, Nat.one_mul]; omega
    have hO' : g' * nv vl < nv (win l0 j (m + 3)) + nv vl := by rw [← hg', Nat.add_mul, Nat.one_mul] at hO; omega
    refine ar_wrap rfl ((g' : Nat) : Int) (by rw [show (((g : Nat) : Int) - 1) = ((g' : Nat) : Int) from by omega]; exact wrap_in ⟨by omega, by omega⟩) ?_
    refine gives_call (n := m + 2) pos (nth_set h) hs (by first | exact hv | exact .tail _ hv | exact .tail _ (.tail _ hv) | exact .tail _ (.tail _ (.tail _ hv)) | exact .tail _ (.tail _ (.tail _ (.tail _ hv)))) hn e2 hvl (by omega) (by omega) ?_
    intro l2 b2 c1 c2 c3 c4 c5
    replace c5 : nv (win l2 j (m + 3)) + 18446744073709551616 ^ (m + 3) * b2 = nv (win l1 j (m + 3)) + nv vl := c5
    refine loop_rule (X := Nat × List Nat × Nat) (fun x => ([(0, wsl u j (m + 3)), (1, v), (5, .int .i64 (vl.length : Nat)), (6, .int .u64 (x.1 : Nat))], setOwn os pos (ownU u x.2.1), fs))
      (fun x => x.1 < 18446744073709551616 ∧ x.2.1.length = l0.length ∧ Lim x.2.1 ∧ x.2.2 ≤ 1 ∧ (∀ y, y < j ∨ j + (m + 2) < y → x.2.1.getD y 0 = l0.getD y 0) ∧
        nv (win x.2.1 j (m + 3)) + x.1 * nv vl = nv (win l0 j (m + 3)) + 18446744073709551616 ^ (m + 3) * x.2.2 ∧ nv (win l0 j (m + 3)) < (x.1 + 1) * nv vl ∧ x.1 * nv vl < nv (win l0 j (m + 3)) + nv vl) (fun x => x.1) rfl ?_ ?_
    · refine again (g', l2, 1 - b2) ⟨by simp only; omega, by simp only; omega, c2, by simp only; omega, fun y hy => by simp only; rw [c3 y (by omega), e3 y (by omega)], ?_, hU0, hO'⟩ trivial qF (by rw [set_set]; exact (Seals.sub (fun F hF => by first | exact hF | exact .tail _ hF | exact .tail _ (.tail _ hF) | exact .tail _ (.tail _ (.tail _ hF)) | exact .tail _ (.tail _ (.tail _ (.tail _ hF))))))
      exact give_step c5 e5 c4
    · rintro ⟨g, l, d⟩ ⟨d1, d2, d3, d4, d5, d6, d7, d8⟩
      simp only at d1 d2 d3 d4 d5 d6 d7 d8 ⊢
      have hn' : nthOwn (setOwn os pos (ownU u l)) pos = some (ownU u l) := nth_set h
      have htp := d3.get (j + (m + 2))
      have hsp : nv (win l j (m + 3)) = nv (win l j (m + 2)) + 18446744073709551616 ^ (m + 2) * l.getD (j + (m + 2)) 0 := win_succ l j (m + 2)
      have hwn := win_lt d3 j (m + 2) (by omega)
      have hwl := win_lt d3 j (m + 3) (by omega)
      have hpp : 18446744073709551616 ^ (m + 3) = 18446744073709551616 ^ (m + 2) * 18446744073709551616 := Nat.pow_succ ..
      refine index_w pos hn' hs (m + 2) (by omega) (by omega) (by omega) ?_
      refine load_U pos hn' (j + (m + 2)) (by omega) ?_
      obtain rfl | rfl : d = 0 ∨ d = 1 := by omega
      · rw [Nat.mul_zero, Nat.add_zero] at d6
        rw [Nat.add_mul, Nat.one_mul] at d7
        have hlast : nv (win l j (m + 3)) < nv vl := by omega
        have hz : l.getD (j + (m + 2)) 0 = 0 := by
          exact top_none hsp (Nat.lt_trans hlast hVlt)
        refine cmp_false rfl (by omega) ?_
        exact fin (k l g d2 d3 d5 d1 d6 hlast) (Seals.sub (fun F hF => by first | exact hF | exact .tail _ hF | exact .tail _ (.tail _ hF) | exact .tail _ (.tail _ (.tail _ hF)) | exact .tail _ (.tail _ (.tail _ (.tail _ hF)))))
      · rw [Nat.mul_one] at d6
        have hz : l.getD (j + (m + 2)) 0 = 18446744073709551615 := by
          have hfull : 18446744073709551616 ^ (m + 2) * 18446744073709551616 < nv (win l j (m + 3)) + 18446744073709551616 ^ (m + 2) := by rw [← hpp]; omega
          have := top_full hsp hwn hfull
          omega
        refine cmp_true rfl (by omega) ?_
        refine index_w pos hn' hs (m + 2) (by omega) (by omega) (by omega) ?_
        refine load_U pos hn' (j + (m + 2)) (by omega) ?_
        refine cmp_true rfl (by omega) ?_
        have hg0 : g ≠ 0 := fun e => by rw [e, Nat.zero_mul, Nat.add_zero] at d6; omega
        obtain ⟨g'', rfl⟩ : ∃ g'', g = g'' + 1 := ⟨g - 1, by omega⟩
        refine ar_wrap rfl ((g'' : Nat) : Int) (by rw [show (((g'' + 1 : Nat) : Int) - 1) = ((g'' : Nat) : Int) from by omega]; exact wrap_in ⟨by omega, by omega⟩) ?_
        refine gives_call (n := m + 2) pos hn' hs (by first | exact hv | exact .tail _ hv | exact .tail _ (.tail _ hv) | exact .tail _ (.tail _ (.tail _ hv)) | exact .tail _ (.tail _ (.tail _ (.tail _ hv)))) hn d3 hvl (by omega) (by omega) ?_
        intro l3 b3 c1 c2 c3 c4 c5
        replace c5 : nv (win l3 j (m + 3)) + 18446744073709551616 ^ (m + 3) * b3 = nv (win l j (m + 3)) + nv vl := c5
        rw [Nat.add_mul, Nat.one_mul] at d6 d8
        have hU1 : nv (win l0 j (m + 3)) < (g'' + 1) * nv vl := by rw [Nat.add_mul, Nat.one_mul]; omega
        have hw3 := win_lt c2 j (m + 3) (by omega)
        refine again (g'', l3, 1 - b3) ⟨by simp only; omega, by simp only; omega, c2, by simp only; omega, fun y hy => by simp only; rw [c3 y (by omega), d5 y (by omega)], ?_, hU1, by simp only; omega⟩ (by simp only; omega) qF (by rw [set_set]; exact (Seals.sub (fun F hF => by first | exact hF | exact .tail _ hF | exact .tail _ (.tail _ hF) | exact .tail _ (.tail _ (.tail _ hF)) | exact .tail _ (.tail _ (.tail _ (.tail _ hF))))))
        exact give_step c5 d6 c4
theorem digit_guess {K : Cont} {os : List Own} {fs : List Fact} (pos : Nat) {u v : Value} {l0 vl : List Nat} {j m : Nat} (h : nthOwn os pos = some (ownU u l0)) (hs : isSl u) (hv : (v, U vl) ∈ fs) (hn : vl.length = m + 2)
    (hl0 : Lim l0) (hvl : Lim vl) (hj : j + (m + 3) ≤ l0.length) (ll : l0.length ≤ 1099511627777) (htop : 9223372036854775808 ≤ vl.getD (m + 1) 0)
    (hlt : nv (win l0 j (m + 3)) < 18446744073709551616 * nv vl) :
    VC Tryz.prog Tryz.f178.ntmps (takeC 4 (bodyOf Tryz.f178)) (argF 0 [wsl u j (m + 3), v]) os fs (cutN (fun g : Nat => ([(0, wsl u j (m + 3)), (1, v), (5, .int .i64 (vl.length : Nat)), (6, .int .u64 (g : Nat))], os, fs))
      (fun g => g < 18446744073709551616 ∧ nv (win l0 j (m + 3)) < (g + 1) * nv vl ∧ g * nv vl < nv (win l0 j (m + 3)) + 2 * nv vl) (retQ Tryz.prog Tryz.f178 K)) := by
  have hkn := kn_of hl0 hvl hj hn htop hlt
  have hu2 := hl0.get (j + (m + 2))
  have hu1 := hl0.get (j + (m + 1))
  have hu0 := hl0.get (j + m)
  have hv1 := hvl.get (m + 1)
  have hv2 := hvl.get m
  have hVlt : nv vl < 18446744073709551616 ^ (m + 2) := by rw [← hn]; exact nv_lt hvl
  have hVpos : 0 < nv vl := by
    have := hkn.vlo
    have : 0 < 18446744073709551616 ^ m * (18446744073709551616 * vl.getD (m + 1) 0) := Nat.mul_pos (Nat.pow_pos (by decide)) (by omega)
    omega
  refine len_fact hv fun _ => ?_
  refine draw_rule [0, 1, 2, 3, 4, 5, 6, 7, 8, 9] [0, 1, 2, 3, 4, 5, 6, 7, 8, 9] (by kernel_rfl) (by kernel_rfl) ?_
  refine index_w pos h hs (m + 2) (by omega) (by omega) (by omega) ?_
  refine load_U pos h (j + (m + 2)) (by omega) ?_
  refine ar rfl qI ?_
  refine index_fact (by first | exact hv | exact .tail _ hv | exact .tail _ (.tail _ hv) | exact .tail _ (.tail _ (.tail _ hv)) | exact .tail _ (.tail _ (.tail _ (.tail _ hv)))) (m + 1) (by omega) (by omega) fun p => ?_
  refine load_one qM ?_
  refine cmp_split _ rfl (fun hc => ?_) (fun hc => ?_)
  · refine draw_rule [0, 1, 2, 3, 4, 5, 6, 7, 8, 9, 10, 11, 12, 13, 14, 15, 16, 17, 18, 19] [0, 1, 2, 3, 4, 5, 6, 7, 8, 9, 10, 11, 12, 13, 14, 15, 16, 18, 17, 19] (by kernel_rfl) (by kernel_rfl) ?_
    refine index_w pos h hs (m + 2) (by omega) (by omega) (by omega) ?_
    refine load_U pos h (j + (m + 2)) (by omega) ?_
    refine ar rfl qI ?_
    refine index_w pos h hs (m + 1) (by omega) (by omega) (by omega) ?_
    refine load_U pos h (j + (m + 1)) (by omega) ?_
    refine ar rfl qI ?_
    refine index_fact (by first | exact hv | exact .tail _ hv | exact .tail _ (.tail _ hv) | exact .tail _ (.tail _ (.tail _ hv)) | exact .tail _ (.tail _ (.tail _ (.tail _ hv)))) (m + 1) (by omega) (by omega) fun p => ?_
    refine load_one qM ?_
    refine call_fn (div64_meets (l0.getD (j + (m + 2)) 0) (l0.getD (j + (m + 1)) 0) (vl.getD (m + 1) 0) (by omega) hu1 hv1) (Seals.refl _ _) qS ?_
    rintro _ _ _ ⟨rfl, rfl, rfl⟩
    have hf := hkn.first (by omega)
    have hd := Nat.div_add_mod (l0.getD (j + (m + 2)) 0 * 18446744073709551616 + l0.getD (j + (m + 1)) 0) (vl.getD (m + 1) 0)
    have hm := Nat.mod_lt (l0.getD (j + (m + 2)) 0 * 18446744073709551616 + l0.getD (j + (m + 1)) 0) (show 0 < vl.getD (m + 1) 0 by omega)
    refine loop_cut (Y := Nat) 0 (fun g => ([(0, wsl u j (m + 3)), (1, v), (5, .int .i64 (vl.length : Nat)), (7, .int .u64 (g : Nat))], os, fs))
      (fun g => g < 18446744073709551616 ∧ nv (win l0 j (m + 3)) < (g + 1) * nv vl ∧ g * nv vl < nv (win l0 j (m + 3)) + 2 * nv vl) ?_ ?_
    · refine loop_rule (X := Nat × Nat) (fun x => ([(0, wsl u j (m + 3)), (1, v), (5, .int .i64 (vl.length : Nat)), (7, .int .u64 (x.1 : Nat)), (8, .int .u64 (x.2 : Nat))], os, fs))
        (fun x => x.1 < 18446744073709551616 ∧ nv (win l0 j (m + 3)) < (x.1 + 1) * nv vl ∧ x.1 * nv vl < nv (win l0 j (m + 3)) + 2 * nv vl ∧ x.2 < 18446744073709551616 ∧
          x.1 * vl.getD (m + 1) 0 + x.2 = l0.getD (j + (m + 2)) 0 * 18446744073709551616 + l0.getD (j + (m + 1)) 0) (fun x => x.1) rfl ?_ ?_
      · exact again ((l0.getD (j + (m + 2)) 0 * 18446744073709551616 + l0.getD (j + (m + 1)) 0) / vl.getD (m + 1) 0, (l0.getD (j + (m + 2)) 0 * 18446744073709551616 + l0.getD (j + (m + 1)) 0) % vl.getD (m + 1) 0) ⟨hf.2.2, hf.1, hf.2.1, by simp only; omega, by simp only; rw [Nat.mul_comm]; exact hd⟩ trivial qF (Seals.sub (fun F hF => by first | exact hF | exact .tail _ hF | exact .tail _ (.tail _ hF) | exact .tail _ (.tail _ (.tail _ hF)) | exact .tail _ (.tail _ (.tail _ (.tail _ hF)))))
      · clear hf hd hm
        rintro ⟨g, r⟩ ⟨d1, d2, d3, d4, d5⟩
        simp only at d1 d2 d3 d4 d5 ⊢
        refine ar rfl qI ?_
        refine index_fact (by first | exact hv | exact .tail _ hv | exact .tail _ (.tail _ hv) | exact .tail _ (.tail _ (.tail _ hv)) | exact .tail _ (.tail _ (.tail _ (.tail _ hv)))) m (by omega) (by omega) fun p => ?_
        refine load_one qM ?_
        refine call_fn (mul64_meets g (vl.getD m 0) d1 hv2) (Seals.refl _ _) qS ?_
        rintro _ _ _ ⟨rfl, rfl, rfl⟩
        have hdm := Nat.div_add_mod (g * vl.getD m 0) 18446744073709551616
        have hml := Nat.mod_lt (g * vl.getD m 0) (show 0 < 18446744073709551616 by decide)
        have hgo : ∀ {q : Nat}, g * vl.getD m 0 = q → r * 18446744073709551616 + l0.getD (j + m) 0 < q → nv (win l0 j (m + 3)) < g * nv vl := fun he hq => hkn.high d5 (by rw [he]; exact hq)
        obtain ⟨hi, hhi⟩ : ∃ hi, hi = g * vl.getD m 0 / 18446744073709551616 := ⟨_, rfl⟩
        obtain ⟨lo, hlo⟩ : ∃ lo, lo = g * vl.getD m 0 % 18446744073709551616 := ⟨_, rfl⟩
        rw [← hhi, ← hlo] at hdm
        rw [← hlo] at hml
        rw [← hhi, ← hlo]
        clear hhi hlo
        refine cmp_split _ rfl (fun ha => ?_) (fun ha => ?_)
        · exact again g ⟨d1, d2, d3⟩ trivial qF (Seals.sub (fun F hF => by first | exact hF | exact .tail _ hF | exact .tail _ (.tail _ hF) | exact .tail _ (.tail _ (.tail _ hF)) | exact .tail _ (.tail _ (.tail _ (.tail _ hF)))))
        · refine cmp_split _ rfl (fun hb => ?_) (fun hb => ?_)
          · refine ar rfl qI ?_
            refine index_w pos h hs m (by omega) (by omega) (by omega) ?_
            refine load_U pos h (j + m) (by omega) ?_
            refine cmp_split _ rfl (fun hd => ?_) (fun hd => ?_)
            · exact again g ⟨d1, d2, d3⟩ trivial qF (Seals.sub (fun F hF => by first | exact hF | exact .tail _ hF | exact .tail _ (.tail _ hF) | exact .tail _ (.tail _ (.tail _ hF)) | exact .tail _ (.tail _ (.tail _ (.tail _ hF)))))
            ·
              have hU2 := hgo hdm.symm (by omega)
              have hg0 : g ≠ 0 := fun e => by rw [e, Nat.zero_mul] at hU2; omega
              obtain ⟨g', rfl⟩ : ∃ g', g = g' + 1 := ⟨g - 1, by omega⟩
              refine ar_wrap rfl ((g' : Nat) : Int) (by rw [show (((g' + 1 : Nat) : Int) - 1) = ((g' : Nat) : Int) from by omega]; exact wrap_in ⟨by omega, by omega⟩) ?_
              refine ar rfl qI ?_
              refine index_fact (by first | exact hv | exact .tail _ hv | exact .tail _ (.tail _ hv) | exact .tail _ (.tail _ (.tail _ hv)) | exact .tail _ (.tail _ (.tail _ (.tail _ hv)))) (m + 1) (by omega) (by omega) fun p => ?_
              refine load_one qM ?_
              have hO2 : g' * nv vl < nv (win l0 j (m + 3)) + 2 * nv vl := by rw [Nat.add_mul, Nat.one_mul] at d3; omega
              rw [Nat.add_mul, Nat.one_mul] at d5
              refine ar_wrap rfl (((r + vl.getD (m + 1) 0) % 18446744073709551616 : Nat) : Int) (by rw [wrap_u64]; omega) ?_
              refine cmp_split _ rfl (fun he => ?_) (fun he => ?_)
              · exact again g' ⟨by omega, hU2, hO2⟩ trivial qF (Seals.sub (fun F hF => by first | exact hF | exact .tail _ hF | exact .tail _ (.tail _ hF) | exact .tail _ (.tail _ (.tail _ hF)) | exact .tail _ (.tail _ (.tail _ (.tail _ hF)))))
              · exact again (g', (r + vl.getD (m + 1) 0) % 18446744073709551616) ⟨by simp only; omega, hU2, hO2, by simp only; omega, by simp only; omega⟩ (by simp only; omega) qF (Seals.sub (fun F hF => by first | exact hF | exact .tail _ hF | exact .tail _ (.tail _ hF) | exact .tail _ (.tail _ (.tail _ hF)) | exact .tail _ (.tail _ (.tail _ (.tail _ hF)))))
          ·
            have hU2 := hgo hdm.symm (by omega)
            have hg0 : g ≠ 0 := fun e => by rw [e, Nat.zero_mul] at hU2; omega
            obtain ⟨g', rfl⟩ : ∃ g', g = g' + 1 := ⟨g - 1, by omega⟩
            refine ar_wrap rfl ((g' : Nat) : Int) (by rw [show (((g' + 1 : Nat) : Int) - 1) = ((g' : Nat) : Int) from by omega]; exact wrap_in ⟨by omega, by omega⟩) ?_
            refine ar rfl qI ?_
            refine index_fact (by first | exact hv | exact .tail _ hv | exact .tail _ (.tail _ hv) | exact .tail _ (.tail _ (.tail _ hv)) | exact .tail _ (.tail _ (.tail _ (.tail _ hv)))) (m + 1) (by omega) (by omega) fun p => ?_
            refine load_one qM ?_
            have hO2 : g' * nv vl < nv (win l0 j (m + 3)) + 2 * nv vl := by rw [Nat.add_mul, Nat.one_mul] at d3; omega
            rw [Nat.add_mul, Nat.one_mul] at d5
            refine ar_wrap rfl (((r + vl.getD (m + 1) 0) % 18446744073709551616 : Nat) : Int) (by rw [wrap_u64]; omega) ?_
            refine cmp_split _ rfl (fun he => ?_) (fun he => ?_)
            · exact again g' ⟨by omega, hU2, hO2⟩ trivial qF (Seals.sub (fun F hF => by first | exact hF | exact .tail _ hF | exact .tail _ (.tail _ hF) | exact .tail _ (.tail _ (.tail _ hF)) | exact .tail _ (.tail _ (.tail _ (.tail _ hF)))))
            · exact again (g', (r + vl.getD (m + 1) 0) % 18446744073709551616) ⟨by simp only; omega, hU2, hO2, by simp only; omega, by simp only; omega⟩ (by simp only; omega) qF (Seals.sub (fun F hF => by first | exact hF | exact .tail _ hF | exact .tail _ (.tail _ hF) | exact .tail _ (.tail _ (.tail _ hF)) | exact .tail _ (.tail _ (.tail _ (.tail _ hF)))))
    · rintro g ⟨hB, hU, hO⟩
      exact again g ⟨hB, hU, hO⟩ trivial qF (Seals.sub (fun F hF => by first | exact hF | exact .tail _ hF | exact .tail _ (.tail _ hF) | exact .tail _ (.tail _ (.tail _ hF)) | exact .tail _ (.tail _ (.tail _ (.tail _ hF)))))
  · have hU : nv (win l0 j (m + 3)) < (18446744073709551615 + 1) * nv vl := hlt
    have hO := hkn.max (by omega)
    have hB : 18446744073709551615 < 18446744073709551616 := by decide
    exact again 18446744073709551615 ⟨hB, hU, hO⟩ trivial qF (Seals.sub (fun F hF => by first | exact hF | exact .tail _ hF | exact .tail _ (.tail _ hF) | exact .tail _ (.tail _ (.tail _ hF)) | exact .tail _ (.tail _ (.tail _ (.tail _ hF)))))
theorem digit_call {K : Cont} {os : List Own} {fs : List Fact} (pos : Nat) {u v : Value} {l0 vl : List Nat} {j m : Nat} (h : nthOwn os pos = some (ownU u l0)) (hs : isSl u) (hv : (v, U vl) ∈ fs) (hn : vl.length = m + 2)
    (hl0 : Lim l0) (hvl : Lim vl) (hj : j + (m + 3) ≤ l0.length) (ll : l0.length ≤ 1099511627777) (htop : 9223372036854775808 ≤ vl.getD (m + 1) 0)
    (hlt : nv (win l0 j (m + 3)) < 18446744073709551616 * nv vl)
    (k : ∀ l' g, l'.length = l0.length → Lim l' → (∀ x, x < j ∨ j + (m + 2) < x → l'.getD x 0 = l0.getD x 0) → g < 18446744073709551616 → nv (win l' j (m + 3)) + g * nv vl = nv (win l0 j (m + 3)) →
      nv (win l' j (m + 3)) < nv vl → K (.int .u64 (g : Int)) (setOwn os pos (ownU u l')) fs) : CallK Tryz.prog false (.func (.func 178) #[] #[]) [wsl u j (m + 3), v] os fs K :=
  inline_cut 4 (fun g : Nat => ([(0, wsl u j (m + 3)), (1, v), (5, .int .i64 (vl.length : Nat)), (6, .int .u64 (g : Nat))], os, fs)) (fun g => g < 18446744073709551616 ∧ nv (win l0 j (m + 3)) < (g + 1) * nv vl ∧ g * nv vl < nv (win l0 j (m + 3)) + 2 * nv vl) Tryz.func178 (by kernel_rfl) rfl (by kernel_rfl) (Nat.le_of_ble_eq_true rfl)
    (digit_guess pos h hs hv hn hl0 hvl hj ll htop hlt) (fun g hg => digit_tail pos h hs hv hn hl0 hvl hj ll htop hlt k g hg.1 hg.2.1 hg.2.2)
open Go.RowKit
theorem copy_rule {P : Program} {t ty e : TypeId} {size bytes : Nat} {a b : Value} {n m : Nat} {el el' : Nat → Dat} {os : List Own} {fs : List Fact} {K : Cont} [ht : TSl P t e size] [he : TEl P e size bytes] (pos : Nat)
    (h : nthOwn os pos = some (own1 a size n el)) (hs : isSl a) (hb : Knw os fs b (.sl size m el')) (hm : m ≤ n)
    (k : K (.int .i64 m) (setOwn os pos (own1 a size n (fun i => if i < m then el' i else el i))) fs) : CopyK P [t, t] ty a b os fs K := by
  refine ⟨fun G w hw => ?_⟩
  obtain ⟨ti, z, i1, rfl, i3, i4, i5, i6⟩ := he.info
  obtain ⟨ba, bc, news, rfl, n1, n2, n3, n4⟩ := src_cells (P := P) (hb G w hw)
  have hmin : Nat.min m n = m := Nat.min_eq_left hm
  rcases hw.own _ (nthOwn_mem h) 0 Nat.zero_lt_one with ⟨h1, h2⟩ | ⟨r, cap, h1, h2⟩ | ⟨r, h1, _⟩ | ⟨_, _, _, _, _, _, ⟨r, _, _, h1, _⟩ | ⟨r, _, _, _, _, _, _, h1, _⟩⟩
  rotate_right
  · obtain ⟨_, _, _, rfl⟩ := hs; simp [own1] at h1
  rotate_right
  · obtain ⟨_, _, _, rfl⟩ := hs; simp [own1] at h1
  · simp only [own1] at h1 h2
    subst h1 h2
    have hm0 : m = 0 := by omega
    subst hm0
    have hn : news = [] := List.eq_nil_of_length_eq_zero (by simpa using n1)
    subst hn
    have hrun : (Builtin.copy_ [t, t].toArray ty #[.slice none 0 0, .slice ba 0 bc]).run P w = .ok (.int .i64 (0 : Nat)) w := by
      have := n3 w fun _ => rfl
      simp [Builtin.copy_, run_underlying ht.und, sizeOf, typeInfo, i1, Builtin.lenOf, this, goInt]
    rw [val_run' hrun]
    exact ⟨_, fs, k, hw.step h rfl rfl rfl (Nat.le_refl _) (fun _ _ _ => rfl) (fun b ⟨x, _, hxb⟩ => by simp [own1, vblk] at hxb) (fun i j b hi hj _ _ => by simp only [own1] at hi hj; omega) fun mono x hx => .inl ⟨rfl, rfl⟩⟩
  · simp only [own1] at h1 h2
    subst h1
    obtain ⟨b1, b2, b3, cur, t0, b4, b5, b6⟩ := h2
    have hfit : news.length ≤ cur.size := by
      rw [n1, b5]
      exact Nat.mul_le_mul_right _ (by omega)
    have hst := run_storeCells_at P r 0 t0 news 0 cur w b4 (by simpa using hfit) n2
    simp only [Nat.add_zero] at hst
    have hrun : (Builtin.copy_ [t, t].toArray ty #[.slice (some ⟨r, 0, none⟩) n cap, .slice ba m bc]).run P w =
        .ok (.int .i64 (m : Nat)) (w.setRow r (cur.toList.take 0 ++ news ++ cur.toList.drop (0 + news.length)).toArray) := by
      have := n3 w fun _ => rfl
      simp only [Builtin.copy_]
      simp [run_underlying ht.und, sizeOf, typeInfo, i1, Builtin.lenOf, hmin, this, goInt, hst]
    rw [val_run' hrun]
    refine ⟨_, fs, k, hw.step h rfl rfl rfl (by simp) (fun q hq hno => setRow_other w r q _ fun e => hno ⟨0, Nat.zero_lt_one, by rw [e]; rfl⟩)
      (fun b ⟨x, hx, hxb⟩ => .inl ⟨0, Nat.zero_lt_one, hxb⟩) (fun i j b hi hj _ _ => by simp only [own1] at hi hj; omega) fun mono x hx => ?_⟩
    refine .inr (.inl ⟨r, cap, rfl, b1, b2, b3, _, t0, setRow_heap w r cur _ t0 _ b4, ?_, fun y hy => ?_⟩)
    · simp only [List.size_toArray, List.length_append, List.length_take, List.length_drop, Array.length_toList, own1]
      omega
    · simp only [own1] at hy ⊢
      by_cases hym : y < m
      · obtain ⟨cs, c1, c2, c3⟩ := n4 y hym
        refine ⟨cs, by simp only [hym, if_true]; exact mono _ _ c1, c2, fun j hj => ?_⟩
        have hlt : y * ti.size + j < m * ti.size := by
          have : (y + 1) * ti.size ≤ m * ti.size := Nat.mul_le_mul_right _ hym
          rw [Nat.add_mul] at this
          omega
        rw [List.getElem?_toArray, List.append_assoc, List.take_zero, List.nil_append, List.getElem?_append_left (by omega), c3 j hj]
      · obtain ⟨cs, c1, c2, c3⟩ := b6 y hy
        refine ⟨cs, by simp only [hym, if_false]; exact mono _ _ c1, c2, fun j hj => ?_⟩
        have hge : m * ti.size ≤ y * ti.size := Nat.mul_le_mul_right _ (by omega)
        rw [List.getElem?_toArray, List.append_assoc, List.take_zero, List.nil_append, List.getElem?_append_right (by omega), List.getElem?_drop, ← c3 j hj, Array.getElem?_toList]
        congr 1
        omega
  · obtain ⟨q1, q2, q3, rfl⟩ := hs
    simp [own1] at h1
theorem copy_U {P : Program} {t ty e : TypeId} {bytes : Nat} {a b : Value} {l m : List Nat} {os : List Own} {fs : List Fact} {K : Cont} [ht : TSl P t e 1] [he : TEl P e 1 bytes] (pos : Nat)
    (h : nthOwn os pos = some (ownU a l)) (hs : isSl a) (hb : Knw os fs b (U m)) (hm : m.length ≤ l.length)
    (k : K (.int .i64 m.length) (setOwn os pos (ownU a (m ++ l.drop m.length))) fs) : CopyK P [t, t] ty a b os fs K := by
  have h1 := copy_rule (P := P) (t := t) (ty := ty) (K := fun u os' fs' => ∃ os'' fs'', Seals os' fs' os'' fs'' ∧ K u os'' fs'') pos h hs hb hm
  refine ⟨Dyn.sealed (h1 ⟨_, _, ?_, k⟩).out⟩
  have h2 := Seals.own_cong (os := setOwn os pos (own1 a 1 l.length (fun i => if i < m.length then .one (.int .u64 (m.getD i 0 : Nat)) else UE l i))) (fs := fs) pos (n' := (m ++ l.drop m.length).length) (UE (m ++ l.drop m.length)) (nth_set h) (by simp; omega) fun i hi => by
    simp only [UE, List.getD_eq_getElem?_getD]
    by_cases hil : i < m.length
    · rw [if_pos hil, List.getElem?_append_left hil]
    · rw [if_neg hil, List.getElem?_append_right (by omega), List.getElem?_drop, show m.length + (i - m.length) = i by omega]
  rw [set_set] at h2
  exact h2
theorem take_congr {l l' : List Nat} {i : Nat} (hl : l'.length = l.length) (h : ∀ x, x < i → l'.getD x 0 = l.getD x 0) : l'.take i = l.take i := by
  refine List.ext_getElem (by simp [hl]) fun n h1 h2 => ?_
  simp only [List.length_take] at h1 h2
  have := h n (by omega)
  simpa [List.getD_eq_getElem?_getD, show n < l.length by omega, show n < l'.length by omega] using this
theorem drop_congr {l l' : List Nat} {i : Nat} (hl : l'.length = l.length) (h : ∀ x, i ≤ x → l'.getD x 0 = l.getD x 0) : l'.drop i = l.drop i := by
  refine List.ext_getElem (by simp [hl]) fun n h1 h2 => ?_
  simp only [List.length_drop] at h1 h2
  have := h (i + n) (by omega)
  simpa [List.getD_eq_getElem?_getD, show i + n < l.length by omega, show i + n < l'.length by omega] using this
theorem nv_cut (l : List Nat) (i : Nat) (hi : i ≤ l.length) : nv l = nv (l.take i) + 18446744073709551616 ^ i * nv (l.drop i) := by
  have := nv_append (l.take i) (l.drop i)
  rwa [List.take_append_drop, List.length_take, Nat.min_eq_left hi] at this
theorem nv_drop_win (l : List Nat) (i n : Nat) (hi : i + n ≤ l.length) : nv (l.drop i) = nv (win l i n) + 18446744073709551616 ^ n * nv (l.drop (i + n)) := by
  have := nv_cut (l.drop i) n (by simp; omega)
  rwa [List.drop_drop] at this
theorem nv_drop_cons (l : List Nat) (i : Nat) (hi : i < l.length) : nv (l.drop i) = l.getD i 0 + 18446744073709551616 * nv (l.drop (i + 1)) := by
  rw [List.drop_eq_getElem_cons hi, nv]; simp [List.getD_eq_getElem?_getD, hi]
theorem lims_len {n k : Nat} (h1 : n < 18446744073709551616 ^ (k + 1)) (h2 : 18446744073709551616 ^ k ≤ n) : (lims n).length = k + 1 := by
  have := lims_length_le h1
  have h3 := nv_lt (Lim_lims n)
  rw [nv_lims] at h3
  refine Nat.le_antisymm this (Nat.le_of_not_lt fun h => ?_)
  have := Nat.pow_le_pow_right (show 0 < 18446744073709551616 by decide) (show (lims n).length ≤ k by omega)
  omega
theorem lims_get {n k : Nat} (h1 : n < 18446744073709551616 ^ (k + 1)) (h2 : 18446744073709551616 ^ k ≤ n) : (lims n).getD k 0 = n / 18446744073709551616 ^ k := by
  have hl := lims_len h1 h2
  have h := nv_cut (lims n) k (by omega)
  rw [nv_drop_cons _ k (by omega), List.drop_of_length_le (by omega), nv_lims] at h
  have h3 := nv_lt ((Lim_lims n).take k)
  rw [List.length_take, Nat.min_eq_left (by omega)] at h3
  generalize nv (List.take k (lims n)) = z at *
  rw [show nv [] = 0 from rfl, Nat.mul_zero, Nat.add_zero] at h
  generalize (lims n).getD k 0 = y at *
  have hp : 0 < 18446744073709551616 ^ k := Nat.pow_pos (by decide)
  generalize 18446744073709551616 ^ k = Q at *
  rw [h, Nat.add_mul_div_left _ _ hp, Nat.div_eq_of_lt h3, Nat.zero_add]
theorem long_step {ul l' ql : List Nat} {i m g V X : Nat} (hlen : l'.length = ul.length) (hi : i + (m + 3) ≤ ul.length) (hq : i < ql.length) (hul : Lim ul)
    (hsame : ∀ x, x < i ∨ i + (m + 2) < x → l'.getD x 0 = ul.getD x 0) (h1 : nv (win l' i (m + 3)) + g * V = nv (win ul i (m + 3))) (h2 : nv (win l' i (m + 3)) < V) (hV : V < 18446744073709551616 ^ (m + 2))
    (h3 : nv ul + nv (ql.drop (i + 1)) * 18446744073709551616 ^ (i + 1) * V = X) (h4 : nv (ul.drop (i + 1)) < V) :
    nv l' + nv ((ql.set i g).drop i) * 18446744073709551616 ^ i * V = X ∧ nv (l'.drop i) < V := by
  have e0 : nv (ul.drop (i + (m + 3))) = 0 := by
    have := nv_drop_win ul (i + 1) (m + 2) (by omega)
    rw [show i + 1 + (m + 2) = i + (m + 3) by omega] at this
    generalize nv (ul.drop (i + (m + 3))) = z at *
    rcases Nat.eq_zero_or_pos z with hz | hz
    · exact hz
    · have := Nat.le_mul_of_pos_right (18446744073709551616 ^ (m + 2)) hz
      generalize 18446744073709551616 ^ (m + 2) = Q at *
      omega
  have e1 : l'.drop (i + (m + 3)) = ul.drop (i + (m + 3)) := drop_congr hlen fun x hx => hsame x (by omega)
  have e2 : l'.take i = ul.take i := take_congr hlen fun x hx => hsame x (by omega)
  have d1 := nv_drop_win ul i (m + 3) hi
  have d2 := nv_drop_win l' i (m + 3) (by omega)
  rw [e1, e0, Nat.mul_zero, Nat.add_zero] at d2
  rw [e0, Nat.mul_zero, Nat.add_zero] at d1
  have s1 := nv_cut ul i (by omega)
  have s2 := nv_cut l' i (by omega)
  rw [e2] at s2
  rw [d1] at s1
  rw [d2] at s2
  refine ⟨?_, by rw [d2]; exact h2⟩
  have q1 : nv ((ql.set i g).drop i) = g + 18446744073709551616 * nv (ql.drop (i + 1)) := by
    rw [nv_drop_cons _ i (by simp; omega), List.drop_set_of_lt (by omega)]; simp [List.getD_eq_getElem?_getD, hq]
  rw [q1, ← h3, s1, s2, ← h1]
  generalize nv (win l' i (m + 3)) = W
  generalize nv (ql.drop (i + 1)) = Y
  generalize nv (List.take i ul) = T
  rw [Nat.pow_succ]
  generalize 18446744073709551616 ^ i = Q
  have a1 : (g + 18446744073709551616 * Y) * Q * V = Q * (g * V) + Y * (Q * 18446744073709551616) * V := by
    rw [Nat.add_mul, Nat.add_mul, Nat.mul_right_comm g, Nat.mul_comm (g * V), Nat.mul_comm 18446744073709551616 Y, Nat.mul_assoc Y, Nat.mul_comm 18446744073709551616 Q]
  rw [a1, Nat.mul_add]
  omega
theorem win_drop_lt {l : List Nat} {i m V : Nat} (hl : Lim l) (hi : i + (m + 3) ≤ l.length) (h : nv (l.drop (i + 1)) < V) : nv (win l i (m + 3)) < 18446744073709551616 * V := by
  have d1 := nv_drop_win l i (m + 3) hi
  have d2 := nv_drop_cons l i (by omega)
  have := hl.get i
  generalize 18446744073709551616 ^ (m + 3) * nv (l.drop (i + (m + 3))) = Z at *
  omega
theorem far_nat {s : Nat} (h : s ≤ 64) : far (s : Int) = s := by unfold far; omega
theorem shifted {b : List Nat} {m k : Nat} (hb : Lim b) (hn : b.length = m + 2) (h : IsLen (b.getD (m + 1) 0) k) (h0 : b.getD (m + 1) 0 ≠ 0) :
    nv b * 2 ^ (64 - k) < 18446744073709551616 ^ (m + 2) ∧ 9223372036854775808 * 18446744073709551616 ^ (m + 1) ≤ nv b * 2 ^ (64 - k) := by
  obtain ⟨t1, t2⟩ := norm_top h h0
  have hk := h.2.2
  have hlt := h.1
  have hs := nv_cut b (m + 1) (by omega)
  rw [nv_drop_cons _ _ (by omega), List.drop_of_length_le (by omega), show nv [] = 0 from rfl, Nat.mul_zero] at hs
  simp only [Nat.add_zero] at hs
  have h3 := nv_lt (hb.take (m + 1))
  rw [List.length_take, Nat.min_eq_left (by omega)] at h3
  generalize b.getD (m + 1) 0 = t at *
  generalize nv (b.take (m + 1)) = z at *
  have hp : (t + 1) * 2 ^ (64 - k) ≤ 18446744073709551616 := by
    have := Nat.mul_le_mul_right (2 ^ (64 - k)) (Nat.succ_le_of_lt hlt)
    rwa [← Nat.pow_add, show k + (64 - k) = 64 by omega] at this
  have hpp : 18446744073709551616 ^ (m + 2) = 18446744073709551616 ^ (m + 1) * 18446744073709551616 := Nat.pow_succ ..
  have hsp : 0 < 2 ^ (64 - k) := Nat.pow_pos (by decide)
  rw [hpp, hs]
  generalize 18446744073709551616 ^ (m + 1) = Q at *
  generalize 2 ^ (64 - k) = S at *
  constructor
  · have a : (z + Q * t) * S < (Q * (t + 1)) * S := Nat.mul_lt_mul_of_pos_right (by rw [Nat.mul_add]; omega) hsp
    have b : Q * (t + 1) * S ≤ Q * 18446744073709551616 := by rw [Nat.mul_assoc]; exact Nat.mul_le_mul_left _ hp
    omega
  · have a : 9223372036854775808 * Q ≤ Q * (t * S) := by rw [Nat.mul_comm]; exact Nat.mul_le_mul_left _ t2
    have b : Q * (t * S) ≤ (z + Q * t) * S := by rw [← Nat.mul_assoc]; exact Nat.mul_le_mul_right _ (by omega)
    omega
theorem long_meets (va vb : Value) (a b : List Nat) (ha : Lim a) (hb : Lim b) (m : Nat) (hn : b.length = m + 2) (h0 : b.getD (m + 1) 0 ≠ 0) (hab : b.length ≤ a.length) (la : a.length ≤ 274877906944) :
    Meets Tryz.prog 159 [va, vb] [(va, U a), (vb, U b)] (fun r os fs => os = [] ∧ ∃ q s, r = .tuple #[q, s, .bool true] ∧ fs = [(q, U (lims (nv a / nv b))), (s, U (lims (nv a % nv b)))]) := by
  refine meets_of_vc Tryz.func159 (by kernel_rfl) rfl (by kernel_rfl) (Nat.le_of_ble_eq_true rfl) ?_
  have hbt := hb.get (m + 1)
  refine len_fact qM fun _ => ?_
  refine ar rfl qI ?_
  refine index_fact qM (m + 1) (by omega) (by omega) fun p => ?_
  refine load_one qM ?_
  refine call_fn (lz64_meets (b.getD (m + 1) 0) hbt) (Seals.refl _ _) qS ?_
  rintro _ _ _ ⟨rfl, rfl, k, rfl, hk⟩
  obtain ⟨v1, v2⟩ := shifted hb hn hk h0
  have hs64 : 64 - k ≤ 64 := by omega
  have hS : 0 < 2 ^ (64 - k) := Nat.pow_pos (by decide)
  have hS64 : 2 ^ (64 - k) ≤ 18446744073709551616 := Nat.pow_le_pow_right (n := 2) (by decide) hs64
  have halt := nv_lt ha
  have hpm : 18446744073709551616 ^ (m + 1) ≤ nv b * 2 ^ (64 - k) := by omega
  have hvlen := lims_len v1 hpm
  have hvtop : 9223372036854775808 ≤ (lims (nv b * 2 ^ (64 - k))).getD (m + 1) 0 := by
    rw [lims_get v1 hpm, Nat.le_div_iff_mul_le (Nat.pow_pos (by decide))]; exact v2
  have hbge : 18446744073709551616 ^ (m + 1) ≤ nv b := by
    have hs := nv_cut b (m + 1) (by omega)
    rw [nv_drop_cons _ _ (by omega)] at hs
    have := Nat.le_mul_of_pos_right (18446744073709551616 ^ (m + 1)) (show 0 < b.getD (m + 1) 0 + 18446744073709551616 * nv (b.drop (m + 1 + 1)) by omega)
    omega
  have hX : nv a * 2 ^ (64 - k) < 18446744073709551616 ^ (a.length + 1) := by
    rw [Nat.pow_succ]
    exact Nat.lt_of_lt_of_le (Nat.mul_lt_mul_of_pos_right halt hS) (Nat.mul_le_mul_left _ hS64)
  have hXl := lims_length_le hX
  obtain ⟨c, hc⟩ : ∃ c, c + (m + 1) = a.length := ⟨a.length - (m + 1), by omega⟩
  have hXc : nv a * 2 ^ (64 - k) < 18446744073709551616 ^ c * (nv b * 2 ^ (64 - k)) := by
    rw [← Nat.mul_assoc]
    refine Nat.mul_lt_mul_of_pos_right (Nat.lt_of_lt_of_le halt ?_) hS
    rw [← hc, Nat.pow_add]
    exact Nat.mul_le_mul_left _ hbge
  have hfin1 : nv a * 2 ^ (64 - k) / (nv b * 2 ^ (64 - k)) = nv a / nv b := Nat.mul_div_mul_right _ _ hS
  have hfin2 : nv a * 2 ^ (64 - k) % (nv b * 2 ^ (64 - k)) = nv a % nv b * 2 ^ (64 - k) := Nat.mul_mod_mul_right _ _ _
  generalize 64 - k = s at *
  refine call_fn (shl_meets vb b (s : Int) hb (by omega)) (Seals.refl _ _) qS ?_
  rintro v _ _ ⟨rfl, rfl⟩
  refine len_fact qM fun _ => ?_
  refine ar rfl qI ?_
  refine make_U (a.length + 1) (by omega) (by omega) (by omega) (by omega) fun vu hvu => ?_
  refine call_fn (shl_meets va a (s : Int) ha (by omega)) (Seals.refl _ _) qS ?_
  rintro vx _ _ ⟨rfl, rfl⟩
  rw [far_nat hs64]
  refine copy_U 0 rfl hvu (Knw.fact qM) (by simp; omega) ?_
  obtain ⟨ul, hul⟩ : ∃ ul, ul = lims (nv a * 2 ^ s) ++ (List.replicate (a.length + 1) 0).drop (lims (nv a * 2 ^ s)).length := ⟨_, rfl⟩
  have hull : ul.length = a.length + 1 := by rw [hul]; simp; omega
  have hulv : nv ul = nv a * 2 ^ s := by
    rw [hul, nv_append, nv_lims, List.drop_replicate, nv_replicate, Nat.mul_zero, Nat.add_zero]
  have hulL : Lim ul := by rw [hul]; exact (Lim_lims _).append ((Lim.replicate _).drop _)
  rw [← hul]
  clear hul
  have hVL := Lim_lims (nv b * 2 ^ s)
  have hVn := nv_lims (nv b * 2 ^ s)
  generalize lims (nv b * 2 ^ s) = vl at hvlen hvtop hVL hVn ⊢
  have hVpos : 0 < nv b * 2 ^ s := Nat.lt_of_lt_of_le (Nat.pow_pos (by decide)) hpm
  rw [← hVn] at v1 hXc hfin1 hfin2 hVpos
  refine len_fact qM fun _ => ?_
  refine len_U 0 rfl hvu fun _ => ?_
  refine ar rfl qI ?_
  refine make_U c (by omega) (by omega) (by omega) (by omega) fun vq hvq => ?_
  refine len_U 0 rfl hvq fun _ => ?_
  rw [List.length_replicate]
  refine ar rfl qI ?_
  refine loop_rule (X := Nat × List Nat × List Nat) (fun x => ([(7, .int .i64 (s : Nat)), (8, v), (9, vu), (10, .int .i64 (vl.length : Nat)), (11, vq), (12, .int .i64 ((x.1 : Int) - 1))], [ownU vq x.2.2, ownU vu x.2.1], [(v, U vl)]))
    (fun x => x.1 ≤ c ∧ x.2.1.length = a.length + 1 ∧ Lim x.2.1 ∧ x.2.2.length = c ∧ Lim x.2.2 ∧ nv x.2.1 + nv (x.2.2.drop x.1) * 18446744073709551616 ^ x.1 * nv vl = nv a * 2 ^ s ∧ nv (x.2.1.drop x.1) < nv vl) (fun x => x.1) rfl ?_ ?_
  · refine again (c, ul, List.replicate c 0) ⟨Nat.le_refl _, hull, hulL, by simp, Lim.replicate _, ?_, ?_⟩ trivial qF (Seals.sub qS)
    · simp only
      rw [List.drop_of_length_le (by simp), show nv [] = 0 from rfl, Nat.zero_mul, Nat.zero_mul, Nat.add_zero]; exact hulv
    · simp only
      have hs := nv_cut ul c (by omega)
      rw [hulv] at hs
      rw [hs] at hXc
      refine Nat.lt_of_mul_lt_mul_left (a := 18446744073709551616 ^ c) ?_
      generalize 18446744073709551616 ^ c * nv vl = Z at *
      generalize 18446744073709551616 ^ c * nv (ul.drop c) = Z' at *
      omega
  · rintro ⟨k, ul, ql⟩ ⟨h1, h2, h3, h4, h5, h6, h7⟩
    simp only at h1 h2 h3 h4 h5 h6 h7 ⊢
    refine cmp_split _ rfl (fun hc => ?_) (fun hc => ?_)
    · obtain ⟨i, rfl⟩ : ∃ i, k = i + 1 := ⟨k - 1, by omega⟩
      refine ar rfl qI ?_
      refine ar rfl qI ?_
      refine ar rfl qI ?_
      refine ar rfl qI ?_
      refine win_rule 1 rfl hvu i (m + 3) (by omega) (by omega) (by omega) (by omega) (by omega) ?_
      refine digit_call 1 rfl hvu qM hvlen h3 hVL (by omega) (by omega) hvtop (win_drop_lt h3 (by omega) h7) ?_
      intro l' g e1 e2 e3 e4 e5 e6
      have hst := long_step e1 (by omega) (by omega) h3 e3 e5 e6 v1 h6 h7
      refine index_U 0 rfl hvq i (by omega) (by omega) ?_
      refine store_U 0 rfl _ rfl (by omega) ?_
      refine ar rfl qI ?_
      exact again (i, l', ql.set i g) ⟨by simp only; omega, by simp only; omega, e2, by simp [h4], h5.set _ e4, hst.1, hst.2⟩ (by simp only; omega) qF (Seals.sub qS)
    · have hk0 : k = 0 := by omega
      subst hk0
      rw [List.drop_zero, Nat.pow_zero, Nat.mul_one] at h6
      rw [List.drop_zero] at h7
      have hdm : nv a / nv b = nv ql ∧ nv a % nv b * 2 ^ s = nv ul := by
        rw [← hfin1, ← hfin2, ← h6, Nat.mul_comm]
        exact ⟨by rw [Nat.add_comm, Nat.mul_add_div hVpos, Nat.div_eq_of_lt h7, Nat.add_zero], by rw [Nat.add_mul_mod_self_left, Nat.mod_eq_of_lt h7]⟩
      refine call_fn (trim_meets vq ql) (Seals.U 0 rfl hvq) qS ?_
      rintro q _ _ ⟨rfl, rfl⟩
      refine call_fn (shr_meets vu ul (s : Int) h3 (by omega)) (Seals.U 0 rfl hvu) qS ?_
      rintro r _ _ ⟨rfl, rfl⟩
      refine fin ⟨rfl, q, r, rfl, rfl⟩ (Seals.cons ((Knw.fact qM).cast ?_) (Seals.cons ((Knw.fact qM).cast ?_) (Seals.nil _ _)))
      · rw [trimL_eq h5, hdm.1]
      · rw [far_nat hs64, ← hdm.2, Nat.mul_div_cancel _ hS]
open Go.RowKit
theorem divmod_meets (va vb : Value) (a b : List Nat) (ha : Lim a) (hb : Lim b) (la : a.length ≤ 274877906944) (lb : b.length ≤ 274877906944) (h0 : nv b ≠ 0) :
    Meets Tryz.prog 137 [va, vb] [(va, U a), (vb, U b)] (fun r os fs => os = [] ∧ ∃ q s, r = .tuple #[q, s, .bool true] ∧ fs = [(q, U (lims (nv a / nv b))), (s, U (lims (nv a % nv b)))]) := by
  refine meets_of_vc Tryz.func137 (by kernel_rfl) rfl (by kernel_rfl) (Nat.le_of_ble_eq_true rfl) ?_
  refine call_fn (trim_meets va a) (Seals.refl _ _) qS ?_
  rintro x _ _ ⟨rfl, rfl⟩
  refine call_fn (trim_meets vb b) (Seals.refl _ _) qS ?_
  rintro y _ _ ⟨rfl, rfl⟩
  have hxl := trimL_length a
  have hyl := trimL_length b
  rw [trimL_eq ha] at hxl ⊢
  rw [trimL_eq hb] at hyl ⊢
  have hyt := lims_top h0
  have hxv := nv_lims (nv a)
  have hyv := nv_lims (nv b)
  have hxL := Lim_lims (nv a)
  have hxc : lims (nv (lims (nv a))) = lims (nv a) := by rw [nv_lims]
  have hyL := Lim_lims (nv b)
  generalize lims (nv a) = xl at hxl hxv hxL hxc ⊢
  generalize lims (nv b) = yl at hyl hyv hyL hyt ⊢
  obtain ⟨yr, yt, hyr, hyt0, hyt1⟩ := hyt
  have hylen : yl.length = yr.length + 1 := by rw [hyr]; simp
  have hyget : yl.getD yr.length 0 = yt := by rw [hyr]; simp [List.getD_eq_getElem?_getD]
  rw [← hxv, ← hyv]
  rw [← hyv] at h0
  clear hxv hyv hyr ha hb
  refine len_fact qM fun _ => ?_
  refine cmp_false rfl (by omega) ?_
  refine call_fn (cmp_meets x y xl yl hxL hyL) (Seals.refl _ _) qS ?_
  rintro _ _ _ ⟨rfl, rfl, rfl⟩
  refine cmp_split _ rfl (fun hc => ?_) (fun hc => ?_)
  · have hlt : nv xl < nv yl := by unfold cmpN at hc; split at hc <;> (try split at hc) <;> omega
    refine call_fn (clone_meets x xl (by omega)) (Seals.refl _ _) qS ?_
    rintro r _ _ ⟨rfl, hr, rfl⟩
    refine fin ⟨rfl, .slice none 0 0, r, rfl, rfl⟩ (Seals.trans (Seals.U 0 rfl hr) (Seals.cons ?_ (Seals.cons ((Knw.fact qM).cast ?_) (Seals.nil _ _))))
    · rw [Nat.div_eq_of_lt hlt, lims_zero]; exact Knw.nil 1 _
    · rw [Nat.mod_eq_of_lt hlt, hxc]
  · have hge : nv yl ≤ nv xl := by unfold cmpN at hc; split at hc <;> (try split at hc) <;> omega
    have hxlt := nv_lt hxL
    have hlen : yl.length ≤ xl.length := by
      have hs := nv_cut yl yr.length (by omega)
      rw [nv_drop_cons _ _ (by omega), hyget] at hs
      have := Nat.le_mul_of_pos_right (18446744073709551616 ^ yr.length) (show 0 < yt + 18446744073709551616 * nv (yl.drop (yr.length + 1)) by omega)
      refine Nat.le_of_not_lt fun h => ?_
      have := Nat.pow_le_pow_right (show 0 < 18446744073709551616 by decide) (show xl.length ≤ yr.length by omega)
      generalize 18446744073709551616 ^ yr.length = Q1 at *
      generalize 18446744073709551616 ^ xl.length = Q2 at *
      omega
    refine len_fact qM fun _ => ?_
    refine cmp_split _ rfl (fun h1 => ?_) (fun h1 => ?_)
    · have hr0 : yr.length = 0 := by omega
      have hyv : nv yl = yt := by
        have hs := nv_drop_cons yl 0 (by omega)
        rw [List.drop_zero, List.drop_of_length_le (by omega), show nv [] = 0 from rfl, Nat.mul_zero] at hs
        rw [hr0] at hyget
        rw [hs, hyget]; rfl
      refine index_fact qM 0 rfl (by omega) fun p => ?_
      refine load_one qM ?_
      rw [hr0] at hyget
      rw [hyget]
      refine call_fn (short_meets x xl yt hxL (by omega) hyt1 hyt0) (Seals.refl _ _) qS ?_
      rintro _ _ _ ⟨rfl, q, r, rfl, rfl⟩
      rw [hyv]
      exact fin ⟨rfl, q, r, rfl, rfl⟩ (Seals.sub qS)
    · obtain ⟨m, hm⟩ : ∃ m, yr.length = m + 1 := ⟨yr.length - 1, by omega⟩
      rw [hm] at hyget
      refine call_fn (long_meets x y xl yl hxL hyL m (by omega) (by rw [hyget]; exact hyt0) hlen (by omega)) (Seals.refl _ _) qS ?_
      rintro _ _ _ ⟨rfl, q, r, rfl, rfl⟩
      exact fin ⟨rfl, q, r, rfl, rfl⟩ (Seals.sub qS)
theorem gcd_meets (va vb : Value) (a b : List Nat) (ha : Lim a) (hb : Lim b) (la : a.length ≤ 274877906944) (lb : b.length ≤ 274877906944) :
    Meets Tryz.prog 206 [va, vb] [(va, U a), (vb, U b)] (fun r os fs => os = [] ∧ fs = [(r, U (lims (Nat.gcd (nv a) (nv b))))]) := by
  refine meets_of_vc Tryz.func206 (by kernel_rfl) rfl (by kernel_rfl) (Nat.le_of_ble_eq_true rfl) ?_
  refine call_fn (norm_meets va a ha (by omega)) (Seals.refl _ _) qS ?_
  rintro x _ _ ⟨rfl, rfl⟩
  refine call_fn (norm_meets vb b hb (by omega)) (Seals.refl _ _) qS ?_
  rintro y _ _ ⟨rfl, rfl⟩
  have hal := lims_length_le (nv_lt ha)
  have hbl := lims_length_le (nv_lt hb)
  refine loop_rule (X := (Value × Nat) × (Value × Nat)) (fun x => ([(0, x.1.1), (1, x.2.1)], [], [(x.1.1, U (lims x.1.2)), (x.2.1, U (lims x.2.2))]))
    (fun x => (lims x.1.2).length ≤ 274877906944 ∧ (lims x.2.2).length ≤ 274877906944 ∧ Nat.gcd x.1.2 x.2.2 = Nat.gcd (nv a) (nv b)) (fun x => x.2.2) rfl ?_ ?_
  · exact again ((x, nv a), (y, nv b)) ⟨by simp only; omega, by simp only; omega, rfl⟩ trivial qF (Seals.sub qS)
  · rintro ⟨⟨x, n⟩, ⟨y, d⟩⟩ ⟨h1, h2, h3⟩
    simp only at h1 h2 h3 ⊢
    refine len_fact qM fun _ => ?_
    refine cmp_split _ rfl (fun hc => ?_) (fun hc => ?_)
    · have hd : d ≠ 0 := fun e => by rw [e, lims_zero] at hc; simp at hc
      refine call_fn (divmod_meets x y (lims n) (lims d) (Lim_lims _) (Lim_lims _) h1 h2 (by rwa [nv_lims])) (Seals.refl _ _) qS ?_
      rintro _ _ _ ⟨rfl, q, r, rfl, rfl⟩
      have hm := Nat.mod_lt n (Nat.pos_of_ne_zero hd)
      refine again ((y, d), (r, n % d)) ⟨h2, ?_, ?_⟩ hm qF (Seals.cons (Knw.fact qM) (Seals.cons ((Knw.fact qM).cast ?_) (Seals.nil _ _)))
      · have hb := lims_length_le (Nat.lt_trans hm (by have := nv_lt (Lim_lims d); rwa [nv_lims] at this))
        simp only; omega
      · simp only; rw [Nat.gcd_comm, ← Nat.gcd_rec, Nat.gcd_comm]; exact h3
      · rw [nv_lims, nv_lims]
    · have hd : d = 0 := by
        have : (lims d).length = 0 := by omega
        exact lims_eq_nil.1 (List.eq_nil_of_length_eq_zero this)
      subst hd
      refine fin ⟨rfl, rfl⟩ (Seals.cons ((Knw.fact qM).cast ?_) (Seals.nil _ _))
      rw [← h3, Nat.gcd_zero_right]
open Go.RowKit
def I (s : Bool) (l : List Nat) : Dat := .cat (.one (.bool s)) (U l)
def iv (s : Bool) (l : List Nat) : Int := if s then -(nv l : Int) else (nv l : Int)
def zd (x : Int) : Dat := I (decide (x < 0)) (lims x.natAbs)
theorem load_I (s : Bool) (l : List Nat) : LoadAs Tryz.prog 26 (I s l) := (inferInstance : TAgg Tryz.prog 26 2)
instance tzI : TZero Tryz.prog 26 (I false []) := (inferInstance : TZero Tryz.prog 26 (.cat (.one (.bool false)) (.sl 1 0 fun i => .one (.int .u64 ((([] : List Nat).getD i 0 : Nat) : Int)))))
theorem load_L (l : List Nat) : LoadAs Tryz.prog 24 (U l) := (inferInstance : TOne Tryz.prog 24)
theorem zd_of (s : Bool) (n : Nat) : I (s && decide (0 < n)) (lims n) = zd (if s then -(n : Int) else (n : Int)) := by
  unfold zd
  cases s with
  | false => simp only [Bool.false_and, Bool.false_eq_true, if_false, Int.natAbs_natCast]; rw [decide_eq_false (show ¬ ((n : Int) < 0) by omega)]
  | true =>
    simp only [Bool.true_and, if_true, Int.natAbs_neg, Int.natAbs_natCast]
    congr 1
    exact decide_eq_decide.2 (by omega)
theorem made_meets (v : Value) (s : Bool) (l : List Nat) :
    Meets Tryz.prog 100 [.bool s, v] [(v, U l)] (fun r os fs => os = [] ∧ fs = [(r, I (s && decide (0 < l.length)) l)]) := by
  refine meets_of_vc Tryz.func100 (by kernel_rfl) rfl (by kernel_rfl) (Nat.le_of_ble_eq_true rfl) ?_
  refine alloc_rule (d := .cat (.one (.bool false)) (.sl 1 0 fun _ => .one undef)) fun p hp => ?_
  cases s with
  | false =>
    refine build2 (Knw.one rfl) (Knw.fact qM) rfl rfl fun u => ?_
    refine store_box (d := I false l) 0 rfl hp rfl (by kernel_rfl) ?_ ?_; exact Reads.fact qM
    refine load_box (d := I false l) 0 rfl hp rfl (load_I _ _) fun r => ?_
    exact fin ⟨rfl, rfl⟩ (Seals.trans (Seals.drop 0 _ _) (Seals.sub qS))
  | true =>
    refine len_fact qM fun _ => ?_
    refine cmp_split _ rfl (fun hc => ?_) (fun hc => ?_)
    · refine build2 (Knw.one rfl) (Knw.fact qM) rfl rfl fun u => ?_
      refine store_box (d := I true l) 0 rfl hp rfl (by kernel_rfl) ?_ ?_; exact Reads.fact qM
      refine load_box (d := I true l) 0 rfl hp rfl (load_I _ _) fun r => ?_
      rw [show (true && decide (0 < l.length)) = true from decide_eq_true (by omega)]
      exact fin ⟨rfl, rfl⟩ (Seals.trans (Seals.drop 0 _ _) (Seals.sub qS))
    · refine build2 (Knw.one rfl) (Knw.fact qM) rfl rfl fun u => ?_
      refine store_box (d := I false l) 0 rfl hp rfl (by kernel_rfl) ?_ ?_; exact Reads.fact qM
      refine load_box (d := I false l) 0 rfl hp rfl (load_I _ _) fun r => ?_
      rw [show (true && decide (0 < l.length)) = false from decide_eq_false (by omega)]
      exact fin ⟨rfl, rfl⟩ (Seals.trans (Seals.drop 0 _ _) (Seals.sub qS))
theorem made_lims (v : Value) (s : Bool) (n : Nat) :
    Meets Tryz.prog 100 [.bool s, v] [(v, U (lims n))] (fun r os fs => os = [] ∧ fs = [(r, zd (if s then -(n : Int) else (n : Int)))]) := by
  have h := made_meets v s (lims n)
  have e : decide (0 < (lims n).length) = decide (0 < n) := decide_eq_decide.2 ⟨fun h => Nat.pos_of_ne_zero fun e => by rw [e, lims_zero] at h; exact absurd h (by decide), fun h => List.length_pos_iff.2 fun e => by have := lims_eq_nil.1 e; omega⟩
  rw [e, zd_of] at h
  exact h
theorem made_of (v : Value) (s : Bool) (n : Nat) (x : Int) (e : x = if s then -(n : Int) else (n : Int)) :
    Meets Tryz.prog 100 [.bool s, v] [(v, U (lims n))] (fun r os fs => os = [] ∧ fs = [(r, zd x)]) := by rw [e]; exact made_lims v s n
theorem znorm_meets (v : Value) (s : Bool) (l : List Nat) (hl : Lim l) (ll : l.length ≤ 1099511627776) :
    Meets Tryz.prog 75 [v] [(v, I s l)] (fun r os fs => os = [] ∧ fs = [(r, zd (iv s l))]) := by
  refine meets_of_vc Tryz.func75 (by kernel_rfl) rfl (by kernel_rfl) (Nat.le_of_ble_eq_true rfl) ?_
  refine box_rule (Reads.fact (d := I s l) qM) fun p hp => ?_
  refine alloc_rule (d := I false []) fun q hq => ?_
  refine draw_rule [0, 1, 2, 3, 4, 5, 6] [0, 1, 2, 3, 4, 5, 6] (by kernel_rfl) (by kernel_rfl) ?_
  refine field_box 1 rfl hp ?_
  refine load_box_field_one 1 rfl (Part.left (Part.refl _)) ?_
  refine field_box 1 rfl hp ?_
  refine load_box_field 1 rfl (Part.right (Part.refl _)) (load_L _) fun u => ?_
  refine call_fn (norm_meets u l hl ll) (Seals.refl _ _) qS ?_
  rintro w _ _ ⟨rfl, rfl⟩
  refine call_fn (made_lims w s (nv l)) (Seals.refl _ _) qS ?_
  rintro r _ _ ⟨rfl, rfl⟩
  refine store_box (d := zd (iv s l)) 0 rfl hq rfl (by kernel_rfl) ?_ ?_; exact Reads.fact qM
  refine load_box (d := zd (iv s l)) 0 rfl hq rfl (load_I _ _) fun r => ?_
  exact fin ⟨rfl, rfl⟩ (Seals.trans (Seals.trans (Seals.drop 0 _ _) (Seals.drop 0 _ _)) (Seals.sub qS))
open Go.RowKit
theorem zneg_meets (v : Value) (s : Bool) (a : List Nat) (ha : Lim a) (la : a.length ≤ 137438953472) :
    Meets Tryz.prog 68 [v] [(v, I s a)] (fun r os fs => os = [] ∧ fs = [(r, zd (-iv s a))]) := by
  refine meets_of_vc Tryz.func68 (by kernel_rfl) rfl (by kernel_rfl) (Nat.le_of_ble_eq_true rfl) ?_
  refine box_rule (Reads.fact (d := I s a) qM) fun p hp => ?_
  refine alloc_rule (d := I false []) fun o ho => ?_
  refine draw_rule [0, 1, 2, 3, 4, 5, 6, 7] [0, 1, 2, 3, 4, 5, 6, 7] (by kernel_rfl) (by kernel_rfl) ?_
  refine field_box 1 rfl hp ?_
  refine load_box_field_one 1 rfl (Part.left (Part.refl _)) ?_
  refine field_box 1 rfl hp ?_
  refine load_box_field 1 rfl (Part.right (Part.refl _)) (load_L _) fun u => ?_
  refine call_fn (norm_meets u a ha (by omega)) (Seals.refl _ _) qS ?_
  rintro w _ _ ⟨rfl, rfl⟩
  have e : -iv s a = if !s then -(nv a : Int) else (nv a : Int) := by cases s <;> simp [iv]
  refine call_fn (made_of w (!s) (nv a) (-iv s a) e) (Seals.refl _ _) qS ?_
  rintro r _ _ ⟨rfl, rfl⟩
  refine store_box (d := zd (-iv s a)) 0 rfl ho rfl (by kernel_rfl) ?_ ?_; exact Reads.fact qM
  refine load_box (d := zd (-iv s a)) 0 rfl ho rfl (load_I _ _) fun r => ?_
  exact fin ⟨rfl, rfl⟩ (Seals.trans (Seals.trans (Seals.drop 0 _ _) (Seals.drop 0 _ _)) (Seals.sub qS))
theorem zabs_meets (v : Value) (s : Bool) (a : List Nat) (ha : Lim a) (la : a.length ≤ 137438953472) :
    Meets Tryz.prog 144 [v] [(v, I s a)] (fun r os fs => os = [] ∧ fs = [(r, zd ((nv a : Nat) : Int))]) := by
  refine meets_of_vc Tryz.func144 (by kernel_rfl) rfl (by kernel_rfl) (Nat.le_of_ble_eq_true rfl) ?_
  refine box_rule (Reads.fact (d := I s a) qM) fun p hp => ?_
  refine alloc_rule (d := I false []) fun o ho => ?_
  refine field_box 1 rfl hp ?_
  refine load_box_field 1 rfl (Part.right (Part.refl _)) (load_L _) fun u => ?_
  refine call_fn (norm_meets u a ha (by omega)) (Seals.refl _ _) qS ?_
  rintro w _ _ ⟨rfl, rfl⟩
  refine call_fn (made_lims w false (nv a)) (Seals.refl _ _) qS ?_
  rintro r _ _ ⟨rfl, rfl⟩
  refine store_box (d := zd ((nv a : Nat) : Int)) 0 rfl ho rfl (by kernel_rfl) ?_ ?_; exact Reads.fact qM
  refine load_box (d := zd ((nv a : Nat) : Int)) 0 rfl ho rfl (load_I _ _) fun r => ?_
  exact fin ⟨rfl, rfl⟩ (Seals.trans (Seals.trans (Seals.drop 0 _ _) (Seals.drop 0 _ _)) (Seals.sub qS))
theorem zsign_meets (v : Value) (s : Bool) (a : List Nat) (ha : Lim a) (la : a.length ≤ 137438953472) :
    Meets Tryz.prog 51 [v] [(v, I s a)] (fun r os fs => os = [] ∧ fs = [] ∧ r = .int .i64 (iv s a).sign) := by
  refine meets_of_vc Tryz.func51 (by kernel_rfl) rfl (by kernel_rfl) (Nat.le_of_ble_eq_true rfl) ?_
  refine box_rule (Reads.fact (d := I s a) qM) fun p hp => ?_
  refine field_box 0 rfl hp ?_
  refine load_box_field 0 rfl (Part.right (Part.refl _)) (load_L _) fun u => ?_
  refine call_fn (bitlen_meets u a ha (by omega)) (Seals.refl _ _) qS ?_
  rintro _ _ _ ⟨rfl, rfl, rfl⟩
  have hb : bitlen (nv a) = 0 ↔ nv a = 0 := by unfold bitlen; split <;> simp_all
  refine cmp_split _ rfl (fun hc => ?_) (fun hc => ?_)
  · have h0 : nv a = 0 := hb.1 (by omega)
    refine fin ⟨rfl, rfl, ?_⟩ (Seals.trans (Seals.drop 0 _ _) (Seals.nil _ _))
    unfold iv; rw [h0]; cases s <;> rfl
  · have h0 : nv a ≠ 0 := fun e => hc (by rw [hb.2 e]; rfl)
    refine field_box 0 rfl hp ?_
    refine load_box_field_one 0 rfl (Part.left (Part.refl _)) ?_
    cases s with
    | true =>
      refine fin ⟨rfl, rfl, ?_⟩ (Seals.trans (Seals.drop 0 _ _) (Seals.nil _ _))
      rw [show iv true a = -(nv a : Int) from rfl, Int.sign_eq_neg_one_of_neg (by omega)]; rfl
    | false =>
      refine fin ⟨rfl, rfl, ?_⟩ (Seals.trans (Seals.drop 0 _ _) (Seals.nil _ _))
      rw [show iv false a = (nv a : Int) from rfl, Int.sign_eq_one_of_pos (by omega)]; rfl
theorem zgcd_meets (v w : Value) (s t : Bool) (a b : List Nat) (ha : Lim a) (hb : Lim b) (la : a.length ≤ 137438953472) (lb : b.length ≤ 137438953472) :
    Meets Tryz.prog 198 [v, w] [(v, I s a), (w, I t b)] (fun r os fs => os = [] ∧ fs = [(r, zd ((Nat.gcd (nv a) (nv b) : Nat) : Int))]) := by
  refine meets_of_vc Tryz.func198 (by kernel_rfl) rfl (by kernel_rfl) (Nat.le_of_ble_eq_true rfl) ?_
  refine box_rule (Reads.fact (d := I s a) qM) fun p hp => ?_
  refine box_rule (Reads.fact (d := I t b) qM) fun q hq => ?_
  refine alloc_rule (d := I false []) fun o ho => ?_
  refine field_box 2 rfl hp ?_
  refine load_box_field 2 rfl (Part.right (Part.refl _)) (load_L _) fun x => ?_
  refine field_box 1 rfl hq ?_
  refine load_box_field 1 rfl (Part.right (Part.refl _)) (load_L _) fun y => ?_
  refine call_fn (gcd_meets x y a b ha hb (by omega) (by omega)) (Seals.refl _ _) qS ?_
  rintro z _ _ ⟨rfl, rfl⟩
  refine call_fn (made_lims z false (Nat.gcd (nv a) (nv b))) (Seals.refl _ _) qS ?_
  rintro r _ _ ⟨rfl, rfl⟩
  refine store_box (d := zd ((Nat.gcd (nv a) (nv b) : Nat) : Int)) 0 rfl ho rfl (by kernel_rfl) ?_ ?_; exact Reads.fact qM
  refine load_box (d := zd ((Nat.gcd (nv a) (nv b) : Nat) : Int)) 0 rfl ho rfl (load_I _ _) fun r => ?_
  exact fin ⟨rfl, rfl⟩ (Seals.trans (Seals.trans (Seals.trans (Seals.drop 0 _ _) (Seals.drop 0 _ _)) (Seals.drop 0 _ _)) (Seals.sub qS))
theorem zmul_meets (v w : Value) (s t : Bool) (a b : List Nat) (ha : Lim a) (hb : Lim b) (la : a.length ≤ 137438953472) (lb : b.length ≤ 137438953472) :
    Meets Tryz.prog 98 [v, w] [(v, I s a), (w, I t b)] (fun r os fs => os = [] ∧ fs = [(r, zd (iv s a * iv t b))]) := by
  refine meets_of_vc Tryz.func98 (by kernel_rfl) rfl (by kernel_rfl) (Nat.le_of_ble_eq_true rfl) ?_
  refine box_rule (Reads.fact (d := I s a) qM) fun p hp => ?_
  refine box_rule (Reads.fact (d := I t b) qM) fun q hq => ?_
  refine alloc_rule (d := I false []) fun o ho => ?_
  refine draw_rule [0, 1, 2, 3, 4, 5, 6, 7, 8, 9, 10, 11] [0, 1, 2, 3, 4, 5, 6, 7, 8, 9, 10, 11] (by kernel_rfl) (by kernel_rfl) ?_
  refine field_box 2 rfl hp ?_
  refine load_box_field_one 2 rfl (Part.left (Part.refl _)) ?_
  refine field_box 1 rfl hq ?_
  refine load_box_field_one 1 rfl (Part.left (Part.refl _)) ?_
  refine bne_split (fun hc => ?_) (fun hc => ?_)
  ·
    refine field_box 2 rfl hp ?_
    refine load_box_field 2 rfl (Part.right (Part.refl _)) (load_L _) fun x => ?_
    refine field_box 1 rfl hq ?_
    refine load_box_field 1 rfl (Part.right (Part.refl _)) (load_L _) fun y => ?_
    refine call_fn (mul_meets x y a b ha hb (by omega) (by omega)) (Seals.refl _ _) qS ?_
    rintro z _ _ ⟨rfl, rfl⟩
    have e : iv s a * iv t b = -((nv a * nv b : Nat) : Int) := by cases s <;> cases t <;> simp_all [iv, Int.mul_neg, Int.neg_mul]
    refine call_fn (made_of z true (nv a * nv b) (iv s a * iv t b) e) (Seals.refl _ _) qS ?_
    rintro r _ _ ⟨rfl, rfl⟩
    refine store_box (d := zd (iv s a * iv t b)) 0 rfl ho rfl (by kernel_rfl) ?_ ?_; exact Reads.fact qM
    refine load_box (d := zd (iv s a * iv t b)) 0 rfl ho rfl (load_I _ _) fun r => ?_
    exact fin ⟨rfl, rfl⟩ (Seals.trans (Seals.trans (Seals.trans (Seals.drop 0 _ _) (Seals.drop 0 _ _)) (Seals.drop 0 _ _)) (Seals.sub qS))
  ·
    refine field_box 2 rfl hp ?_
    refine load_box_field 2 rfl (Part.right (Part.refl _)) (load_L _) fun x => ?_
    refine field_box 1 rfl hq ?_
    refine load_box_field 1 rfl (Part.right (Part.refl _)) (load_L _) fun y => ?_
    refine call_fn (mul_meets x y a b ha hb (by omega) (by omega)) (Seals.refl _ _) qS ?_
    rintro z _ _ ⟨rfl, rfl⟩
    have e : iv s a * iv t b = ((nv a * nv b : Nat) : Int) := by cases s <;> cases t <;> simp_all [iv, Int.mul_neg, Int.neg_mul, Int.neg_mul_neg]
    refine call_fn (made_of z false (nv a * nv b) (iv s a * iv t b) e) (Seals.refl _ _) qS ?_
    rintro r _ _ ⟨rfl, rfl⟩
    refine store_box (d := zd (iv s a * iv t b)) 0 rfl ho rfl (by kernel_rfl) ?_ ?_; exact Reads.fact qM
    refine load_box (d := zd (iv s a * iv t b)) 0 rfl ho rfl (load_I _ _) fun r => ?_
    exact fin ⟨rfl, rfl⟩ (Seals.trans (Seals.trans (Seals.trans (Seals.drop 0 _ _) (Seals.drop 0 _ _)) (Seals.drop 0 _ _)) (Seals.sub qS))
theorem zadd_meets (v w : Value) (s t : Bool) (a b : List Nat) (ha : Lim a) (hb : Lim b) (la : a.length ≤ 137438953472) (lb : b.length ≤ 137438953472) :
    Meets Tryz.prog 97 [v, w] [(v, I s a), (w, I t b)] (fun r os fs => os = [] ∧ fs = [(r, zd (iv s a + iv t b))]) := by
  refine meets_of_vc Tryz.func97 (by kernel_rfl) rfl (by kernel_rfl) (Nat.le_of_ble_eq_true rfl) ?_
  refine box_rule (Reads.fact (d := I s a) qM) fun p hp => ?_
  refine box_rule (Reads.fact (d := I t b) qM) fun q hq => ?_
  refine alloc_rule (d := I false []) fun o ho => ?_
  refine field_box 2 rfl hp ?_
  refine load_box_field_one 2 rfl (Part.left (Part.refl _)) ?_
  refine field_box 1 rfl hq ?_
  refine load_box_field_one 1 rfl (Part.left (Part.refl _)) ?_
  refine beq_split (fun hc => ?_) (fun hc => ?_)
  · refine draw_rule [0, 1, 2, 3, 4, 5, 6, 7, 8] [0, 1, 2, 3, 4, 5, 6, 7, 8] (by kernel_rfl) (by kernel_rfl) ?_
    refine field_box 2 rfl hp ?_
    refine load_box_field_one 2 rfl (Part.left (Part.refl _)) ?_
    refine field_box 2 rfl hp ?_
    refine load_box_field 2 rfl (Part.right (Part.refl _)) (load_L _) fun x => ?_
    refine field_box 1 rfl hq ?_
    refine load_box_field 1 rfl (Part.right (Part.refl _)) (load_L _) fun y => ?_
    refine call_fn (add_meets x y a b ha hb (by omega) (by omega)) (Seals.refl _ _) qS ?_
    rintro z _ _ ⟨rfl, rfl⟩
    have e : iv s a + iv t b = if s then -((nv a + nv b : Nat) : Int) else ((nv a + nv b : Nat) : Int) := by subst hc; cases s <;> simp [iv]; omega
    refine call_fn (made_of z s (nv a + nv b) (iv s a + iv t b) e) (Seals.refl _ _) qS ?_
    rintro r _ _ ⟨rfl, rfl⟩
    refine store_box (d := zd (iv s a + iv t b)) 0 rfl ho rfl (by kernel_rfl) ?_ ?_; exact Reads.fact qM
    refine load_box (d := zd (iv s a + iv t b)) 0 rfl ho rfl (load_I _ _) fun r => ?_
    exact fin ⟨rfl, rfl⟩ (Seals.trans (Seals.trans (Seals.trans (Seals.drop 0 _ _) (Seals.drop 0 _ _)) (Seals.drop 0 _ _)) (Seals.sub qS))
  ·
    refine field_box 2 rfl hp ?_
    refine load_box_field 2 rfl (Part.right (Part.refl _)) (load_L _) fun x => ?_
    refine field_box 1 rfl hq ?_
    refine load_box_field 1 rfl (Part.right (Part.refl _)) (load_L _) fun y => ?_
    refine call_fn (sub_meets x y a b ha hb (by omega)) (Seals.refl _ _) qS ?_
    rintro _ _ _ ⟨rfl, ⟨hlt, rfl, rfl⟩ | ⟨hle, z, rfl, rfl⟩⟩
    ·
      refine field_box 1 rfl hq ?_
      refine load_box_field 1 rfl (Part.right (Part.refl _)) (load_L _) fun y' => ?_
      refine field_box 2 rfl hp ?_
      refine load_box_field 2 rfl (Part.right (Part.refl _)) (load_L _) fun x' => ?_
      refine call_fn (sub_meets y' x' b a hb ha (by omega)) (Seals.refl _ _) qS ?_
      rintro _ _ _ ⟨rfl, ⟨hlt', rfl, rfl⟩ | ⟨hle', z, rfl, rfl⟩⟩
      · omega
      refine field_box 1 rfl hq ?_
      refine load_box_field_one 1 rfl (Part.left (Part.refl _)) ?_
      have e : iv s a + iv t b = if t then -((nv b - nv a : Nat) : Int) else ((nv b - nv a : Nat) : Int) := by cases s <;> cases t <;> simp_all [iv] <;> omega
      refine call_fn (made_of z t (nv b - nv a) (iv s a + iv t b) e) (Seals.refl _ _) qS ?_
      rintro r _ _ ⟨rfl, rfl⟩
      refine store_box (d := zd (iv s a + iv t b)) 0 rfl ho rfl (by kernel_rfl) ?_ ?_; exact Reads.fact qM
      refine load_box (d := zd (iv s a + iv t b)) 0 rfl ho rfl (load_I _ _) fun r => ?_
      exact fin ⟨rfl, rfl⟩ (Seals.trans (Seals.trans (Seals.trans (Seals.drop 0 _ _) (Seals.drop 0 _ _)) (Seals.drop 0 _ _)) (Seals.sub qS))
    ·
      refine field_box 2 rfl hp ?_
      refine load_box_field_one 2 rfl (Part.left (Part.refl _)) ?_
      have e : iv s a + iv t b = if s then -((nv a - nv b : Nat) : Int) else ((nv a - nv b : Nat) : Int) := by cases s <;> cases t <;> simp_all [iv] <;> omega
      refine call_fn (made_of z s (nv a - nv b) (iv s a + iv t b) e) (Seals.refl _ _) qS ?_
      rintro r _ _ ⟨rfl, rfl⟩
      refine store_box (d := zd (iv s a + iv t b)) 0 rfl ho rfl (by kernel_rfl) ?_ ?_; exact Reads.fact qM
      refine load_box (d := zd (iv s a + iv t b)) 0 rfl ho rfl (load_I _ _) fun r => ?_
      exact fin ⟨rfl, rfl⟩ (Seals.trans (Seals.trans (Seals.trans (Seals.drop 0 _ _) (Seals.drop 0 _ _)) (Seals.drop 0 _ _)) (Seals.sub qS))
theorem zsub_meets (v w : Value) (s t : Bool) (a b : List Nat) (ha : Lim a) (hb : Lim b) (la : a.length ≤ 137438953472) (lb : b.length ≤ 137438953472) :
    Meets Tryz.prog 96 [v, w] [(v, I s a), (w, I t b)] (fun r os fs => os = [] ∧ fs = [(r, zd (iv s a - iv t b))]) := by
  refine meets_of_vc Tryz.func96 (by kernel_rfl) rfl (by kernel_rfl) (Nat.le_of_ble_eq_true rfl) ?_
  refine box_rule (Reads.fact (d := I s a) qM) fun p hp => ?_
  refine box_rule (Reads.fact (d := I t b) qM) fun q hq => ?_
  refine alloc_rule (d := I false []) fun o ho => ?_
  refine load_box (d := I s a) 2 rfl hp rfl (load_I _ _) fun x => ?_
  refine field_box 1 rfl hq ?_
  refine load_box_field_one 1 rfl (Part.left (Part.refl _)) ?_
  refine field_box 1 rfl hq ?_
  refine load_box_field 1 rfl (Part.right (Part.refl _)) (load_L _) fun u => ?_
  refine build2 (Knw.one rfl) (Knw.fact qM) rfl rfl fun y => ?_
  refine call_fn (zadd_meets x y s (!t) a b ha hb la lb) (Seals.refl _ _) qS ?_
  rintro r _ _ ⟨rfl, rfl⟩
  have e : iv s a + iv (!t) b = iv s a - iv t b := by cases t <;> simp [iv] <;> omega
  rw [e]
  refine store_box (d := zd (iv s a - iv t b)) 0 rfl ho rfl (by kernel_rfl) ?_ ?_; exact Reads.fact qM
  refine load_box (d := zd (iv s a - iv t b)) 0 rfl ho rfl (load_I _ _) fun r => ?_
  exact fin ⟨rfl, rfl⟩ (Seals.trans (Seals.trans (Seals.trans (Seals.drop 0 _ _) (Seals.drop 0 _ _)) (Seals.drop 0 _ _)) (Seals.sub qS))
open Go.RowKit
theorem zof_meets (x : Int) (h1 : -9223372036854775808 ≤ x) (h2 : x < 9223372036854775808) :
    Meets Tryz.prog 56 [.int .i64 x] [] (fun r os fs => os = [] ∧ fs = [(r, zd x)]) := by
  refine meets_of_vc Tryz.func56 (by kernel_rfl) rfl (by kernel_rfl) (Nat.le_of_ble_eq_true rfl) ?_
  refine alloc_rule (d := I false []) fun o ho => ?_
  refine conv_int ⟨_, Tryz.underlying2⟩ Tryz.underlying122 (x % 18446744073709551616) (wrap_u64 _) ?_
  refine cmp_split _ rfl (fun hc => ?_) (fun hc => ?_)
  · refine un_neg (m := ((x.natAbs : Nat) : Int)) (by rw [wrap_u64]; omega) ?_
    refine cmp_true rfl (by omega) ?_
    refine lit_U x.natAbs rfl fun u => ?_
    refine call_fn (norm_meets u [x.natAbs] (Lim.cons (by omega) Lim.nil) (by simp)) (Seals.refl _ _) qS ?_
    rintro w _ _ ⟨rfl, rfl⟩
    rw [show nv [x.natAbs] = x.natAbs from by simp [nv]]
    refine call_fn (made_of w true x.natAbs x (by simp only [if_true]; omega)) (Seals.refl _ _) qS ?_
    rintro r _ _ ⟨rfl, rfl⟩
    refine store_box (d := zd x) 0 rfl ho rfl (by kernel_rfl) ?_ ?_; exact Reads.fact qM
    refine load_box (d := zd x) 0 rfl ho rfl (load_I _ _) fun r => ?_
    exact fin ⟨rfl, rfl⟩ (Seals.trans (Seals.drop 0 _ _) (Seals.sub qS))
  · refine cmp_false rfl (by omega) ?_
    refine lit_U x.natAbs (by omega) fun u => ?_
    refine call_fn (norm_meets u [x.natAbs] (Lim.cons (by omega) Lim.nil) (by simp)) (Seals.refl _ _) qS ?_
    rintro w _ _ ⟨rfl, rfl⟩
    rw [show nv [x.natAbs] = x.natAbs from by simp [nv]]
    refine call_fn (made_of w false x.natAbs x (by simp only [Bool.false_eq_true, if_false]; omega)) (Seals.refl _ _) qS ?_
    rintro r _ _ ⟨rfl, rfl⟩
    refine store_box (d := zd x) 0 rfl ho rfl (by kernel_rfl) ?_ ?_; exact Reads.fact qM
    refine load_box (d := zd x) 0 rfl ho rfl (load_I _ _) fun r => ?_
    exact fin ⟨rfl, rfl⟩ (Seals.trans (Seals.drop 0 _ _) (Seals.sub qS))
theorem bit_nil : (lims 0).length = 0 := by rw [lims_zero]; rfl
theorem div_signs {n d : Nat} {s t : Bool} (hd : d ≠ 0) (h : s = true ∧ n % d ≠ 0) :
    (if s then -(n : Int) else n) / (if t then -(d : Int) else d) = (if (s != t) then -((n / d + 1 : Nat) : Int) else ((n / d + 1 : Nat) : Int)) ∧
    (if s then -(n : Int) else n) % (if t then -(d : Int) else d) = ((d - n % d : Nat) : Int) := by
  obtain ⟨rfl, hr⟩ := h
  have hm := Nat.mod_lt n (Nat.pos_of_ne_zero hd)
  have hdm := Nat.div_add_mod n d
  have h1 : (-(n : Int)) % (d : Int) = ((d - n % d : Nat) : Int) ∧ (-(n : Int)) / (d : Int) = -((n / d + 1 : Nat) : Int) := by
    have := Int.ediv_emod_unique (a := -(n : Int)) (b := (d : Int)) (r := ((d - n % d : Nat) : Int)) (q := -((n / d + 1 : Nat) : Int)) (by omega)
    refine ((this.2 ⟨?_, by omega, by omega⟩).symm)
    have e : (d : Int) * -((n / d + 1 : Nat) : Int) = -((d * (n / d) : Nat) : Int) - d := by
      rw [Int.mul_neg]; push_cast; rw [Int.mul_add]; omega
    rw [e]
    omega
  cases t with
  | false => simp only [if_true, Bool.false_eq_true, if_false]; exact ⟨h1.2, h1.1⟩
  | true =>
    simp only [if_true]
    rw [Int.ediv_neg, Int.emod_neg, h1.1, h1.2]
    exact ⟨by simp, rfl⟩
theorem div_signs0 {n d : Nat} {s t : Bool} (h : ¬ (s = true ∧ n % d ≠ 0)) :
    (if s then -(n : Int) else n) / (if t then -(d : Int) else d) = (if (s != t) then -((n / d : Nat) : Int) else ((n / d : Nat) : Int)) ∧
    (if s then -(n : Int) else n) % (if t then -(d : Int) else d) = ((n % d : Nat) : Int) := by
  cases s with
  | false => cases t <;> simp [Int.ediv_neg, Int.emod_neg]
  | true =>
    have hr : n % d = 0 := by
      rcases Nat.eq_zero_or_pos (n % d) with h0 | h0
      · exact h0
      · exact absurd ⟨rfl, by omega⟩ h
    have hdvd : (d : Int) ∣ (n : Int) := Int.natCast_dvd_natCast.2 (Nat.dvd_of_mod_eq_zero hr)
    have h1 : (-(n : Int)) / (d : Int) = -((n / d : Nat) : Int) := by rw [Int.neg_ediv_of_dvd hdvd, Int.natCast_ediv]
    have h2 : (-(n : Int)) % (d : Int) = ((n % d : Nat) : Int) := by rw [hr]; exact Int.emod_eq_zero_of_dvd (Int.dvd_neg.2 hdvd)
    cases t with
    | false => simp only [if_true, Bool.false_eq_true, if_false]; exact ⟨h1, h2⟩
    | true => simp only [if_true]; rw [Int.ediv_neg, Int.emod_neg, h1, h2]; exact ⟨by simp, rfl⟩
theorem zdivmod_meets (v w : Value) (s t : Bool) (a b : List Nat) (ha : Lim a) (hb : Lim b) (la : a.length ≤ 137438953472) (lb : b.length ≤ 137438953472) (h0 : nv b ≠ 0) :
    Meets Tryz.prog 94 [v, w] [(v, I s a), (w, I t b)] (fun r os fs => os = [] ∧ ∃ q m, r = .tuple #[q, m, .bool true] ∧ fs = [(q, zd (iv s a / iv t b)), (m, zd (iv s a % iv t b))]) := by
  have hml := Nat.mod_lt (nv a) (Nat.pos_of_ne_zero h0)
  have hrl := lims_length_le (Nat.lt_trans hml (nv_lt hb))
  have hql := lims_length_le (Nat.lt_of_le_of_lt (Nat.div_le_self (nv a) (nv b)) (nv_lt ha))
  have key1 := @div_signs (nv a) (nv b) s t h0
  have key0 := @div_signs0 (nv a) (nv b) s t
  change (s = true ∧ _ → iv s a / iv t b = _ ∧ iv s a % iv t b = _) at key1
  change (¬ (s = true ∧ _) → iv s a / iv t b = _ ∧ iv s a % iv t b = _) at key0
  have hrp : 0 < (lims (nv a % nv b)).length ↔ nv a % nv b ≠ 0 := ⟨fun h e => by rw [e, lims_zero] at h; exact absurd h (by decide), fun h => List.length_pos_iff.2 fun e => h (lims_eq_nil.1 e)⟩
  refine meets_of_vc Tryz.func94 (by kernel_rfl) rfl (by kernel_rfl) (Nat.le_of_ble_eq_true rfl) ?_
  refine box_rule (Reads.fact (d := I s a) qM) fun p hp => ?_
  refine box_rule (Reads.fact (d := I t b) qM) fun q hq => ?_
  refine alloc_rule (d := I false []) fun o ho => ?_
  refine alloc_rule (d := I false []) fun o' ho' => ?_
  refine field_box 3 rfl hp ?_
  refine load_box_field 3 rfl (Part.right (Part.refl _)) (load_L _) fun x => ?_
  refine field_box 2 rfl hq ?_
  refine load_box_field 2 rfl (Part.right (Part.refl _)) (load_L _) fun y => ?_
  refine call_fn (divmod_meets x y a b ha hb (by omega) (by omega) h0) (Seals.refl _ _) qS ?_
  rintro _ _ _ ⟨rfl, n, d, rfl, rfl⟩
  refine field_box 3 rfl hp ?_
  refine load_box_field_one 3 rfl (Part.left (Part.refl _)) ?_
  cases s with
  | false =>
    have k0 := key0 (fun h => by cases h.1)
    refine field_box 3 rfl hp ?_
    refine load_box_field_one 3 rfl (Part.left (Part.refl _)) ?_
    refine field_box 2 rfl hq ?_
    refine load_box_field_one 2 rfl (Part.left (Part.refl _)) ?_
    refine bne_split (fun hc => ?_) (fun hc => ?_)
    · refine call_fn (made_of n true (nv a / nv b) (iv false a / iv t b) (by rw [k0.1, if_pos (bne_iff_ne.2 hc)]; rfl)) (Seals.refl _ _) qS ?_
      rintro r1 _ _ ⟨rfl, rfl⟩
      refine call_fn (made_of d false (nv a % nv b) (iv false a % iv t b) k0.2) (Seals.refl _ _) qS ?_
      rintro r2 _ _ ⟨rfl, rfl⟩
      refine store_box (d := zd (iv false a / iv t b)) 1 rfl ho rfl (by kernel_rfl) ?_ ?_; exact Reads.fact qM
      refine store_box (d := zd (iv false a % iv t b)) 0 rfl ho' rfl (by kernel_rfl) ?_ ?_; exact Reads.fact qM
      refine load_box (d := zd (iv false a / iv t b)) 1 rfl ho rfl (load_I _ _) fun r => ?_
      refine load_box (d := zd (iv false a % iv t b)) 0 rfl ho' rfl (load_I _ _) fun r' => ?_
      refine fin ⟨rfl, r, r', rfl, rfl⟩ (Seals.trans (Seals.trans (Seals.trans (Seals.trans (Seals.drop 0 _ _) (Seals.drop 0 _ _)) (Seals.drop 0 _ _)) (Seals.drop 0 _ _)) (Seals.sub qS))
    · refine call_fn (made_of n false (nv a / nv b) (iv false a / iv t b) (by rw [k0.1, if_neg (fun h => bne_iff_ne.1 h hc)]; rfl)) (Seals.refl _ _) qS ?_
      rintro r1 _ _ ⟨rfl, rfl⟩
      refine call_fn (made_of d false (nv a % nv b) (iv false a % iv t b) k0.2) (Seals.refl _ _) qS ?_
      rintro r2 _ _ ⟨rfl, rfl⟩
      refine store_box (d := zd (iv false a / iv t b)) 1 rfl ho rfl (by kernel_rfl) ?_ ?_; exact Reads.fact qM
      refine store_box (d := zd (iv false a % iv t b)) 0 rfl ho' rfl (by kernel_rfl) ?_ ?_; exact Reads.fact qM
      refine load_box (d := zd (iv false a / iv t b)) 1 rfl ho rfl (load_I _ _) fun r => ?_
      refine load_box (d := zd (iv false a % iv t b)) 0 rfl ho' rfl (load_I _ _) fun r' => ?_
      refine fin ⟨rfl, r, r', rfl, rfl⟩ (Seals.trans (Seals.trans (Seals.trans (Seals.trans (Seals.drop 0 _ _) (Seals.drop 0 _ _)) (Seals.drop 0 _ _)) (Seals.drop 0 _ _)) (Seals.sub qS))
  | true =>
    refine len_fact qM fun _ => ?_
    refine cmp_split _ rfl (fun hc => ?_) (fun hc => ?_)
    · have hr : nv a % nv b ≠ 0 := hrp.1 (by omega)
      have k1 := key1 ⟨rfl, hr⟩
      refine lit_U 1 rfl fun u => ?_
      refine call_fn (add_meets n u (lims (nv a / nv b)) [1] (Lim_lims _) (Lim.cons (by decide) Lim.nil) (by omega) (by simp)) (Seals.refl _ _) qS ?_
      rintro n' _ _ ⟨rfl, rfl⟩
      rw [nv_lims, show nv [1] = 1 from by simp [nv]]
      refine field_box 2 rfl hq ?_
      refine load_box_field 2 rfl (Part.right (Part.refl _)) (load_L _) fun y' => ?_
      refine call_fn (sub_meets y' d b (lims (nv a % nv b)) hb (Lim_lims _) (by omega)) (Seals.refl _ _) qS ?_
      rw [nv_lims]
      rintro _ _ _ ⟨rfl, ⟨hlt, rfl, rfl⟩ | ⟨hle, d', rfl, rfl⟩⟩
      · omega
      refine field_box 3 rfl hp ?_
      refine load_box_field_one 3 rfl (Part.left (Part.refl _)) ?_
      refine field_box 2 rfl hq ?_
      refine load_box_field_one 2 rfl (Part.left (Part.refl _)) ?_
      refine bne_split (fun hc => ?_) (fun hc => ?_)
      · refine call_fn (made_of n' true (nv a / nv b + 1) (iv true a / iv t b) (by rw [k1.1, if_pos (bne_iff_ne.2 hc)]; rfl)) (Seals.refl _ _) qS ?_
        rintro r1 _ _ ⟨rfl, rfl⟩
        refine call_fn (made_of d' false (nv b - nv a % nv b) (iv true a % iv t b) k1.2) (Seals.refl _ _) qS ?_
        rintro r2 _ _ ⟨rfl, rfl⟩
        refine store_box (d := zd (iv true a / iv t b)) 1 rfl ho rfl (by kernel_rfl) ?_ ?_; exact Reads.fact qM
        refine store_box (d := zd (iv true a % iv t b)) 0 rfl ho' rfl (by kernel_rfl) ?_ ?_; exact Reads.fact qM
        refine load_box (d := zd (iv true a / iv t b)) 1 rfl ho rfl (load_I _ _) fun r => ?_
        refine load_box (d := zd (iv true a % iv t b)) 0 rfl ho' rfl (load_I _ _) fun r' => ?_
        refine fin ⟨rfl, r, r', rfl, rfl⟩ (Seals.trans (Seals.trans (Seals.trans (Seals.trans (Seals.drop 0 _ _) (Seals.drop 0 _ _)) (Seals.drop 0 _ _)) (Seals.drop 0 _ _)) (Seals.sub qS))
      · refine call_fn (made_of n' false (nv a / nv b + 1) (iv true a / iv t b) (by rw [k1.1, if_neg (fun h => bne_iff_ne.1 h hc)]; rfl)) (Seals.refl _ _) qS ?_
        rintro r1 _ _ ⟨rfl, rfl⟩
        refine call_fn (made_of d' false (nv b - nv a % nv b) (iv true a % iv t b) k1.2) (Seals.refl _ _) qS ?_
        rintro r2 _ _ ⟨rfl, rfl⟩
        refine store_box (d := zd (iv true a / iv t b)) 1 rfl ho rfl (by kernel_rfl) ?_ ?_; exact Reads.fact qM
        refine store_box (d := zd (iv true a % iv t b)) 0 rfl ho' rfl (by kernel_rfl) ?_ ?_; exact Reads.fact qM
        refine load_box (d := zd (iv true a / iv t b)) 1 rfl ho rfl (load_I _ _) fun r => ?_
        refine load_box (d := zd (iv true a % iv t b)) 0 rfl ho' rfl (load_I _ _) fun r' => ?_
        refine fin ⟨rfl, r, r', rfl, rfl⟩ (Seals.trans (Seals.trans (Seals.trans (Seals.trans (Seals.drop 0 _ _) (Seals.drop 0 _ _)) (Seals.drop 0 _ _)) (Seals.drop 0 _ _)) (Seals.sub qS))
    · have k0 := key0 (fun h => hc (by have := hrp.2 h.2; omega))
      refine field_box 3 rfl hp ?_
      refine load_box_field_one 3 rfl (Part.left (Part.refl _)) ?_
      refine field_box 2 rfl hq ?_
      refine load_box_field_one 2 rfl (Part.left (Part.refl _)) ?_
      refine bne_split (fun hc => ?_) (fun hc => ?_)
      · refine call_fn (made_of n true (nv a / nv b) (iv true a / iv t b) (by rw [k0.1, if_pos (bne_iff_ne.2 hc)]; rfl)) (Seals.refl _ _) qS ?_
        rintro r1 _ _ ⟨rfl, rfl⟩
        refine call_fn (made_of d false (nv a % nv b) (iv true a % iv t b) k0.2) (Seals.refl _ _) qS ?_
        rintro r2 _ _ ⟨rfl, rfl⟩
        refine store_box (d := zd (iv true a / iv t b)) 1 rfl ho rfl (by kernel_rfl) ?_ ?_; exact Reads.fact qM
        refine store_box (d := zd (iv true a % iv t b)) 0 rfl ho' rfl (by kernel_rfl) ?_ ?_; exact Reads.fact qM
        refine load_box (d := zd (iv true a / iv t b)) 1 rfl ho rfl (load_I _ _) fun r => ?_
        refine load_box (d := zd (iv true a % iv t b)) 0 rfl ho' rfl (load_I _ _) fun r' => ?_
        refine fin ⟨rfl, r, r', rfl, rfl⟩ (Seals.trans (Seals.trans (Seals.trans (Seals.trans (Seals.drop 0 _ _) (Seals.drop 0 _ _)) (Seals.drop 0 _ _)) (Seals.drop 0 _ _)) (Seals.sub qS))
      · refine call_fn (made_of n false (nv a / nv b) (iv true a / iv t b) (by rw [k0.1, if_neg (fun h => bne_iff_ne.1 h hc)]; rfl)) (Seals.refl _ _) qS ?_
        rintro r1 _ _ ⟨rfl, rfl⟩
        refine call_fn (made_of d false (nv a % nv b) (iv true a % iv t b) k0.2) (Seals.refl _ _) qS ?_
        rintro r2 _ _ ⟨rfl, rfl⟩
        refine store_box (d := zd (iv true a / iv t b)) 1 rfl ho rfl (by kernel_rfl) ?_ ?_; exact Reads.fact qM
        refine store_box (d := zd (iv true a % iv t b)) 0 rfl ho' rfl (by kernel_rfl) ?_ ?_; exact Reads.fact qM
        refine load_box (d := zd (iv true a / iv t b)) 1 rfl ho rfl (load_I _ _) fun r => ?_
        refine load_box (d := zd (iv true a % iv t b)) 0 rfl ho' rfl (load_I _ _) fun r' => ?_
        refine fin ⟨rfl, r, r', rfl, rfl⟩ (Seals.trans (Seals.trans (Seals.trans (Seals.trans (Seals.drop 0 _ _) (Seals.drop 0 _ _)) (Seals.drop 0 _ _)) (Seals.drop 0 _ _)) (Seals.sub qS))
open Go.RowKit
theorem rMake_meets (v : Value) (s : Bool) (a : List Nat) (ha : Lim a) (la : a.length ≤ 1099511627776) :
    Meets Tryz.prog 83 [.bool s, v] [(v, U a)] (fun r os fs => os = [] ∧ fs = [(r, zd (iv s a))]) := by
  refine meets_of_vc Tryz.func83 (by kernel_rfl) rfl (by kernel_rfl) (Nat.le_of_ble_eq_true rfl) ?_
  refine alloc_rule (d := I false []) fun o ho => ?_
  refine call_fn (rNorm_meets v a ha (by omega)) (Seals.refl _ _) qS ?_
  rintro w _ _ ⟨rfl, rfl⟩
  have e : decide (0 < (lims (nv a)).length) = decide (0 < nv a) := decide_eq_decide.2 ⟨fun h => Nat.pos_of_ne_zero fun e => by rw [e, lims_zero] at h; exact absurd h (by decide), fun h => List.length_pos_iff.2 fun e => by have := lims_eq_nil.1 e; omega⟩
  have hz := zd_of s (nv a)
  rw [← e] at hz
  change _ = zd (iv s a) at hz
  cases s with
  | false =>
    refine build2 (Knw.one rfl) (Knw.fact qM) rfl rfl fun u => ?_
    rw [← hz]
    refine store_box (d := I false (lims (nv a))) 0 rfl ho rfl (by kernel_rfl) ?_ ?_; exact Reads.fact qM
    refine load_box (d := I false (lims (nv a))) 0 rfl ho rfl (load_I _ _) fun r => ?_
    exact fin ⟨rfl, rfl⟩ (Seals.trans (Seals.drop 0 _ _) (Seals.sub qS))
  | true =>
    refine len_fact qM fun _ => ?_
    refine cmp_split _ rfl (fun hc => ?_) (fun hc => ?_)
    · refine build2 (Knw.one rfl) (Knw.fact qM) rfl rfl fun u => ?_
      rw [show (true && decide (0 < (lims (nv a)).length)) = true from decide_eq_true (by omega)] at hz
      rw [← hz]
      refine store_box (d := I true (lims (nv a))) 0 rfl ho rfl (by kernel_rfl) ?_ ?_; exact Reads.fact qM
      refine load_box (d := I true (lims (nv a))) 0 rfl ho rfl (load_I _ _) fun r => ?_
      exact fin ⟨rfl, rfl⟩ (Seals.trans (Seals.drop 0 _ _) (Seals.sub qS))
    · refine build2 (Knw.one rfl) (Knw.fact qM) rfl rfl fun u => ?_
      rw [show (true && decide (0 < (lims (nv a)).length)) = false from decide_eq_false (by omega)] at hz
      rw [← hz]
      refine store_box (d := I false (lims (nv a))) 0 rfl ho rfl (by kernel_rfl) ?_ ?_; exact Reads.fact qM
      refine load_box (d := I false (lims (nv a))) 0 rfl ho rfl (load_I _ _) fun r => ?_
      exact fin ⟨rfl, rfl⟩ (Seals.trans (Seals.drop 0 _ _) (Seals.sub qS))
theorem rMake_of (v : Value) (s : Bool) (n : Nat) (x : Int) (ll : (lims n).length ≤ 1099511627776) (e : x = if s then -(n : Int) else (n : Int)) :
    Meets Tryz.prog 83 [.bool s, v] [(v, U (lims n))] (fun r os fs => os = [] ∧ fs = [(r, zd x)]) := by
  have := rMake_meets v s (lims n) (Lim_lims _) ll
  unfold iv at this
  rwa [nv_lims, ← e] at this
theorem rZNorm_meets (v : Value) (s : Bool) (a : List Nat) (ha : Lim a) (la : a.length ≤ 1099511627776) :
    Meets Tryz.prog 84 [v] [(v, I s a)] (fun r os fs => os = [] ∧ fs = [(r, zd (iv s a))]) := by
  refine meets_of_vc Tryz.func84 (by kernel_rfl) rfl (by kernel_rfl) (Nat.le_of_ble_eq_true rfl) ?_
  refine box_rule (Reads.fact (d := I s a) qM) fun p hp => ?_
  refine alloc_rule (d := I false []) fun o ho => ?_
  refine field_box 1 rfl hp ?_
  refine load_box_field_one 1 rfl (Part.left (Part.refl _)) ?_
  refine field_box 1 rfl hp ?_
  refine load_box_field 1 rfl (Part.right (Part.refl _)) (load_L _) fun u => ?_
  refine call_fn (rMake_meets u s a ha la) (Seals.refl _ _) qS ?_
  rintro w _ _ ⟨rfl, rfl⟩
  refine store_box (d := zd (iv s a)) 0 rfl ho rfl (by kernel_rfl) ?_ ?_; exact Reads.fact qM
  refine load_box (d := zd (iv s a)) 0 rfl ho rfl (load_I _ _) fun r => ?_
  exact fin ⟨rfl, rfl⟩ (Seals.trans (Seals.trans (Seals.drop 0 _ _) (Seals.drop 0 _ _)) (Seals.sub qS))
theorem rNeg_meets (v : Value) (s : Bool) (a : List Nat) (ha : Lim a) (la : a.length ≤ 1099511627776) :
    Meets Tryz.prog 35 [v] [(v, I s a)] (fun r os fs => os = [] ∧ fs = [(r, zd (-iv s a))]) := by
  refine meets_of_vc Tryz.func35 (by kernel_rfl) rfl (by kernel_rfl) (Nat.le_of_ble_eq_true rfl) ?_
  refine box_rule (Reads.fact (d := I s a) qM) fun p hp => ?_
  refine alloc_rule (d := I false []) fun o ho => ?_
  refine field_box 1 rfl hp ?_
  refine load_box_field_one 1 rfl (Part.left (Part.refl _)) ?_
  refine field_box 1 rfl hp ?_
  refine load_box_field 1 rfl (Part.right (Part.refl _)) (load_L _) fun u => ?_
  refine call_fn (rMake_meets u (!s) a ha la) (Seals.refl _ _) qS ?_
  rintro w _ _ ⟨rfl, rfl⟩
  rw [show iv (!s) a = -iv s a from by cases s <;> simp [iv]]
  refine store_box (d := zd (-iv s a)) 0 rfl ho rfl (by kernel_rfl) ?_ ?_; exact Reads.fact qM
  refine load_box (d := zd (-iv s a)) 0 rfl ho rfl (load_I _ _) fun r => ?_
  exact fin ⟨rfl, rfl⟩ (Seals.trans (Seals.trans (Seals.drop 0 _ _) (Seals.drop 0 _ _)) (Seals.sub qS))
theorem rSign_meets (v : Value) (s : Bool) (a : List Nat) (ha : Lim a) (la : a.length ≤ 1099511627776) :
    Meets Tryz.prog 44 [v] [(v, I s a)] (fun r os fs => os = [] ∧ fs = [] ∧ r = .int .i64 (iv s a).sign) := by
  refine meets_of_vc Tryz.func44 (by kernel_rfl) rfl (by kernel_rfl) (Nat.le_of_ble_eq_true rfl) ?_
  refine box_rule (Reads.fact (d := I s a) qM) fun p hp => ?_
  refine load_box (d := I s a) 0 rfl hp rfl (load_I _ _) fun x => ?_
  refine call_fn (rZNorm_meets x s a ha la) (Seals.refl _ _) qS ?_
  rintro y _ _ ⟨rfl, rfl⟩
  refine store_box (d := zd (iv s a)) 0 rfl hp rfl (by kernel_rfl) ?_ ?_; exact Reads.fact qM
  generalize iv s a = x
  refine field_box 0 rfl hp ?_
  refine load_box_field (d := U (lims x.natAbs)) 0 rfl (Part.right (Part.refl _)) (load_L _) fun u => ?_
  refine len_fact qM fun _ => ?_
  have hl : (lims x.natAbs).length = 0 ↔ x = 0 := ⟨fun h => by have := lims_eq_nil.1 (List.eq_nil_of_length_eq_zero h); omega, fun h => by subst h; exact bit_nil⟩
  refine cmp_split _ rfl (fun hc => ?_) (fun hc => ?_)
  · have h0 : x = 0 := hl.1 (by omega)
    refine fin ⟨rfl, rfl, ?_⟩ (Seals.trans (Seals.drop 0 _ _) (Seals.nil _ _))
    rw [h0]; rfl
  · have h0 : x ≠ 0 := fun e => hc (by rw [hl.2 e]; rfl)
    refine field_box 0 rfl hp ?_
    refine load_box_field_one (u := .bool (decide (x < 0))) 0 rfl (Part.left (Part.refl _)) ?_
    by_cases hx : x < 0
    · rw [decide_eq_true hx]
      refine fin ⟨rfl, rfl, ?_⟩ (Seals.trans (Seals.drop 0 _ _) (Seals.nil _ _))
      rw [Int.sign_eq_neg_one_of_neg hx]; rfl
    · rw [decide_eq_false hx]
      refine fin ⟨rfl, rfl, ?_⟩ (Seals.trans (Seals.drop 0 _ _) (Seals.nil _ _))
      rw [Int.sign_eq_one_of_pos (by omega)]; rfl
theorem rOf_meets (x : Int) (h1 : -9223372036854775808 ≤ x) (h2 : x < 9223372036854775808) :
    Meets Tryz.prog 61 [.int .i64 x] [] (fun r os fs => os = [] ∧ fs = [(r, zd x)]) := by
  refine meets_of_vc Tryz.func61 (by kernel_rfl) rfl (by kernel_rfl) (Nat.le_of_ble_eq_true rfl) ?_
  refine alloc_rule (d := I false []) fun o ho => ?_
  have hv : nv [x.natAbs] = x.natAbs := by simp [nv]
  refine cmp_split _ rfl (fun hc => ?_) (fun hc => ?_)
  · refine conv_int ⟨_, Tryz.underlying2⟩ Tryz.underlying122 ((x.natAbs : Nat) : Int) (by rw [wrap_u64]; omega) ?_
    refine lit_U x.natAbs rfl fun u => ?_
    refine call_fn (rMake_meets u false [x.natAbs] (Lim.cons (by omega) Lim.nil) (by simp)) (Seals.refl _ _) qS ?_
    rintro r _ _ ⟨rfl, rfl⟩
    rw [show iv false [x.natAbs] = x from by unfold iv; rw [hv]; simp only [Bool.false_eq_true, if_false]; omega]
    refine store_box (d := zd x) 0 rfl ho rfl (by kernel_rfl) ?_ ?_; exact Reads.fact qM
    refine load_box (d := zd x) 0 rfl ho rfl (load_I _ _) fun r => ?_
    exact fin ⟨rfl, rfl⟩ (Seals.trans (Seals.drop 0 _ _) (Seals.sub qS))
  · refine ar rfl qI ?_
    refine un_neg (m := -(x + 1)) (by rw [show (0 - (x + 1)) = -(x + 1) from by omega]; exact wrap_in ⟨by omega, by omega⟩) ?_
    refine conv_int ⟨_, Tryz.underlying2⟩ Tryz.underlying122 (-(x + 1)) (by rw [wrap_u64]; omega) ?_
    refine ar_wrap rfl ((x.natAbs : Nat) : Int) (by rw [wrap_u64]; omega) ?_
    refine lit_U x.natAbs rfl fun u => ?_
    refine call_fn (rMake_meets u true [x.natAbs] (Lim.cons (by omega) Lim.nil) (by simp)) (Seals.refl _ _) qS ?_
    rintro r _ _ ⟨rfl, rfl⟩
    rw [show iv true [x.natAbs] = x from by unfold iv; rw [hv]; simp only [if_true]; omega]
    refine store_box (d := zd x) 0 rfl ho rfl (by kernel_rfl) ?_ ?_; exact Reads.fact qM
    refine load_box (d := zd x) 0 rfl ho rfl (load_I _ _) fun r => ?_
    exact fin ⟨rfl, rfl⟩ (Seals.trans (Seals.drop 0 _ _) (Seals.sub qS))
theorem rZMul_meets (v w : Value) (s t : Bool) (a b : List Nat) (ha : Lim a) (hb : Lim b) (la : a.length ≤ 137438953472) (lb : b.length ≤ 137438953472) :
    Meets Tryz.prog 41 [v, w] [(v, I s a), (w, I t b)] (fun r os fs => os = [] ∧ fs = [(r, zd (iv s a * iv t b))]) := by
  have hml := lims_length_le (k := a.length + b.length) (n := nv a * nv b) (by rw [Nat.pow_add]; exact Nat.mul_lt_mul'' (nv_lt ha) (nv_lt hb))
  refine meets_of_vc Tryz.func41 (by kernel_rfl) rfl (by kernel_rfl) (Nat.le_of_ble_eq_true rfl) ?_
  refine box_rule (Reads.fact (d := I s a) qM) fun p hp => ?_
  refine box_rule (Reads.fact (d := I t b) qM) fun q hq => ?_
  refine alloc_rule (d := I false []) fun o ho => ?_
  refine draw_rule [0, 1, 2, 3, 4, 5, 6, 7, 8, 9, 10, 11] [0, 1, 2, 3, 4, 5, 6, 7, 8, 9, 10, 11] (by kernel_rfl) (by kernel_rfl) ?_
  refine field_box 2 rfl hp ?_
  refine load_box_field_one 2 rfl (Part.left (Part.refl _)) ?_
  refine field_box 1 rfl hq ?_
  refine load_box_field_one 1 rfl (Part.left (Part.refl _)) ?_
  refine bne_split (fun hc => ?_) (fun hc => ?_)
  ·
    refine field_box 2 rfl hp ?_
    refine load_box_field 2 rfl (Part.right (Part.refl _)) (load_L _) fun x => ?_
    refine field_box 1 rfl hq ?_
    refine load_box_field 1 rfl (Part.right (Part.refl _)) (load_L _) fun y => ?_
    refine call_fn (rMul_meets x y a b ha hb (by omega) (by omega)) (Seals.refl _ _) qS ?_
    rintro z _ _ ⟨rfl, rfl⟩
    have e : iv s a * iv t b = -((nv a * nv b : Nat) : Int) := by cases s <;> cases t <;> simp_all [iv, Int.mul_neg, Int.neg_mul]
    refine call_fn (rMake_of z true (nv a * nv b) (iv s a * iv t b) (by omega) e) (Seals.refl _ _) qS ?_
    rintro r _ _ ⟨rfl, rfl⟩
    refine store_box (d := zd (iv s a * iv t b)) 0 rfl ho rfl (by kernel_rfl) ?_ ?_; exact Reads.fact qM
    refine load_box (d := zd (iv s a * iv t b)) 0 rfl ho rfl (load_I _ _) fun r => ?_
    exact fin ⟨rfl, rfl⟩ (Seals.trans (Seals.trans (Seals.trans (Seals.drop 0 _ _) (Seals.drop 0 _ _)) (Seals.drop 0 _ _)) (Seals.sub qS))
  ·
    refine field_box 2 rfl hp ?_
    refine load_box_field 2 rfl (Part.right (Part.refl _)) (load_L _) fun x => ?_
    refine field_box 1 rfl hq ?_
    refine load_box_field 1 rfl (Part.right (Part.refl _)) (load_L _) fun y => ?_
    refine call_fn (rMul_meets x y a b ha hb (by omega) (by omega)) (Seals.refl _ _) qS ?_
    rintro z _ _ ⟨rfl, rfl⟩
    have e : iv s a * iv t b = ((nv a * nv b : Nat) : Int) := by cases s <;> cases t <;> simp_all [iv, Int.mul_neg, Int.neg_mul, Int.neg_mul_neg]
    refine call_fn (rMake_of z false (nv a * nv b) (iv s a * iv t b) (by omega) e) (Seals.refl _ _) qS ?_
    rintro r _ _ ⟨rfl, rfl⟩
    refine store_box (d := zd (iv s a * iv t b)) 0 rfl ho rfl (by kernel_rfl) ?_ ?_; exact Reads.fact qM
    refine load_box (d := zd (iv s a * iv t b)) 0 rfl ho rfl (load_I _ _) fun r => ?_
    exact fin ⟨rfl, rfl⟩ (Seals.trans (Seals.trans (Seals.trans (Seals.drop 0 _ _) (Seals.drop 0 _ _)) (Seals.drop 0 _ _)) (Seals.sub qS))
theorem iv_abs (s : Bool) (a : List Nat) : (iv s a).natAbs = nv a := by cases s <;> simp [iv]
theorem rZAdd_meets (v w : Value) (s t : Bool) (a b : List Nat) (ha : Lim a) (hb : Lim b) (la : a.length ≤ 137438953472) (lb : b.length ≤ 137438953472) :
    Meets Tryz.prog 36 [v, w] [(v, I s a), (w, I t b)] (fun r os fs => os = [] ∧ fs = [(r, zd (iv s a + iv t b))]) := by
  refine meets_of_vc Tryz.func36 (by kernel_rfl) rfl (by kernel_rfl) (Nat.le_of_ble_eq_true rfl) ?_
  refine box_rule (Reads.fact (d := I s a) qM) fun p hp => ?_
  refine box_rule (Reads.fact (d := I t b) qM) fun q hq => ?_
  refine alloc_rule (d := I false []) fun o ho => ?_
  refine load_box (d := I s a) 2 rfl hp rfl (load_I _ _) fun v1 => ?_
  refine call_fn (rZNorm_meets v1 s a ha (by omega)) (Seals.refl _ _) qS ?_
  rintro v2 _ _ ⟨rfl, rfl⟩
  refine store_box (d := zd (iv s a)) 2 rfl hp rfl (by kernel_rfl) ?_ ?_; exact Reads.fact qM
  refine load_box (d := I t b) 1 rfl hq rfl (load_I _ _) fun w1 => ?_
  refine call_fn (rZNorm_meets w1 t b hb (by omega)) (Seals.refl _ _) qS ?_
  rintro w2 _ _ ⟨rfl, rfl⟩
  refine store_box (d := zd (iv t b)) 1 rfl hq rfl (by kernel_rfl) ?_ ?_; exact Reads.fact qM
  have hxl : (lims (iv s a).natAbs).length ≤ a.length := by rw [iv_abs]; exact lims_length_le (nv_lt ha)
  have hyl : (lims (iv t b).natAbs).length ≤ b.length := by rw [iv_abs]; exact lims_length_le (nv_lt hb)
  have hbig : ∀ n, n ≤ nv a + nv b → (lims n).length ≤ a.length + b.length + 1 := fun n hn => lims_length_le (by
    have h1 := nv_lt ha
    have h2 := nv_lt hb
    have h3 := Nat.pow_le_pow_right (show 0 < 18446744073709551616 by decide) (show a.length ≤ a.length + b.length by omega)
    have h4 := Nat.pow_le_pow_right (show 0 < 18446744073709551616 by decide) (show b.length ≤ a.length + b.length by omega)
    rw [Nat.pow_succ]
    generalize 18446744073709551616 ^ (a.length + b.length) = Q at *
    generalize 18446744073709551616 ^ a.length = Q1 at *
    generalize 18446744073709551616 ^ b.length = Q2 at *
    omega)
  have hxa := iv_abs s a
  have hyb := iv_abs t b
  generalize iv s a = x at *
  generalize iv t b = y at *
  refine field_box 2 rfl hp ?_
  refine load_box_field_one (u := .bool (decide (x < 0))) 2 rfl (Part.left (Part.refl _)) ?_
  refine field_box 1 rfl hq ?_
  refine load_box_field_one (u := .bool (decide (y < 0))) 1 rfl (Part.left (Part.refl _)) ?_
  refine beq_split (fun hc => ?_) (fun hc => ?_)
  · refine draw_rule [0, 1, 2, 3, 4, 5, 6, 7, 8] [0, 1, 2, 3, 4, 5, 6, 7, 8] (by kernel_rfl) (by kernel_rfl) ?_
    refine field_box 2 rfl hp ?_
    refine load_box_field_one (u := .bool (decide (x < 0))) 2 rfl (Part.left (Part.refl _)) ?_
    refine field_box 2 rfl hp ?_
    refine load_box_field (d := U (lims (x).natAbs)) 2 rfl (Part.right (Part.refl _)) (load_L _) fun x1 => ?_
    refine field_box 1 rfl hq ?_
    refine load_box_field (d := U (lims (y).natAbs)) 1 rfl (Part.right (Part.refl _)) (load_L _) fun y1 => ?_
    refine call_fn (rAdd_meets x1 y1 (lims x.natAbs) (lims y.natAbs) (Lim_lims _) (Lim_lims _) (by omega) (by omega)) (Seals.refl _ _) qS ?_
    rintro z _ _ ⟨rfl, rfl⟩
    rw [nv_lims, nv_lims]
    have e : x + y = if decide (x < 0) then -((x.natAbs + y.natAbs : Nat) : Int) else ((x.natAbs + y.natAbs : Nat) : Int) := by
      have := decide_eq_decide.1 hc
      by_cases hx : x < 0
      · simp only [hx, decide_true, if_true]; omega
      · simp only [hx, decide_false, Bool.false_eq_true, if_false]; omega
    refine call_fn (rMake_of z (decide (x < 0)) (x.natAbs + y.natAbs) (x + y) (by have := hbig (x.natAbs + y.natAbs) (by omega); omega) e) (Seals.refl _ _) qS ?_
    rintro r _ _ ⟨rfl, rfl⟩
    refine store_box (d := zd (x + y)) 0 rfl ho rfl (by kernel_rfl) ?_ ?_; exact Reads.fact qM
    refine load_box (d := zd (x + y)) 0 rfl ho rfl (load_I _ _) fun r => ?_
    exact fin ⟨rfl, rfl⟩ (Seals.trans (Seals.trans (Seals.trans (Seals.drop 0 _ _) (Seals.drop 0 _ _)) (Seals.drop 0 _ _)) (Seals.sub qS))
  · have hc' : ¬ (x < 0 ↔ y < 0) := fun h => hc (decide_eq_decide.2 h)
    refine field_box 2 rfl hp ?_
    refine load_box_field (d := U (lims (x).natAbs)) 2 rfl (Part.right (Part.refl _)) (load_L _) fun x1 => ?_
    refine field_box 1 rfl hq ?_
    refine load_box_field (d := U (lims (y).natAbs)) 1 rfl (Part.right (Part.refl _)) (load_L _) fun y1 => ?_
    refine call_fn (rSub_meets x1 y1 (lims x.natAbs) (lims y.natAbs) (Lim_lims _) (Lim_lims _) (by omega) (by omega)) (Seals.refl _ _) qS ?_
    rw [nv_lims, nv_lims]
    rintro _ _ _ ⟨rfl, ⟨hlt, rfl, rfl⟩ | ⟨hle, z, rfl, rfl⟩⟩
    ·
      refine field_box 1 rfl hq ?_
      refine load_box_field (d := U (lims (y).natAbs)) 1 rfl (Part.right (Part.refl _)) (load_L _) fun y2 => ?_
      refine field_box 2 rfl hp ?_
      refine load_box_field (d := U (lims (x).natAbs)) 2 rfl (Part.right (Part.refl _)) (load_L _) fun x2 => ?_
      refine call_fn (rSub_meets y2 x2 (lims y.natAbs) (lims x.natAbs) (Lim_lims _) (Lim_lims _) (by omega) (by omega)) (Seals.refl _ _) qS ?_
      rw [nv_lims, nv_lims]
      rintro _ _ _ ⟨rfl, ⟨hlt', rfl, rfl⟩ | ⟨hle', z, rfl, rfl⟩⟩
      · omega
      refine field_box 1 rfl hq ?_
      refine load_box_field_one (u := .bool (decide (y < 0))) 1 rfl (Part.left (Part.refl _)) ?_
      have e : x + y = if decide (y < 0) then -((y.natAbs - x.natAbs : Nat) : Int) else ((y.natAbs - x.natAbs : Nat) : Int) := by
        by_cases hy : y < 0
        · simp only [hy, decide_true, if_true]; omega
        · simp only [hy, decide_false, Bool.false_eq_true, if_false]; omega
      refine call_fn (rMake_of z (decide (y < 0)) (y.natAbs - x.natAbs) (x + y) (by have := hbig (y.natAbs - x.natAbs) (by omega); omega) e) (Seals.refl _ _) qS ?_
      rintro r _ _ ⟨rfl, rfl⟩
      refine store_box (d := zd (x + y)) 0 rfl ho rfl (by kernel_rfl) ?_ ?_; exact Reads.fact qM
      refine load_box (d := zd (x + y)) 0 rfl ho rfl (load_I _ _) fun r => ?_
      exact fin ⟨rfl, rfl⟩ (Seals.trans (Seals.trans (Seals.trans (Seals.drop 0 _ _) (Seals.drop 0 _ _)) (Seals.drop 0 _ _)) (Seals.sub qS))
    ·
      refine field_box 2 rfl hp ?_
      refine load_box_field_one (u := .bool (decide (x < 0))) 2 rfl (Part.left (Part.refl _)) ?_
      have e : x + y = if decide (x < 0) then -((x.natAbs - y.natAbs : Nat) : Int) else ((x.natAbs - y.natAbs : Nat) : Int) := by
        by_cases hx : x < 0
        · simp only [hx, decide_true, if_true]; omega
        · simp only [hx, decide_false, Bool.false_eq_true, if_false]; omega
      refine call_fn (rMake_of z (decide (x < 0)) (x.natAbs - y.natAbs) (x + y) (by have := hbig (x.natAbs - y.natAbs) (by omega); omega) e) (Seals.refl _ _) qS ?_
      rintro r _ _ ⟨rfl, rfl⟩
      refine store_box (d := zd (x + y)) 0 rfl ho rfl (by kernel_rfl) ?_ ?_; exact Reads.fact qM
      refine load_box (d := zd (x + y)) 0 rfl ho rfl (load_I _ _) fun r => ?_
      exact fin ⟨rfl, rfl⟩ (Seals.trans (Seals.trans (Seals.trans (Seals.drop 0 _ _) (Seals.drop 0 _ _)) (Seals.drop 0 _ _)) (Seals.sub qS))
theorem zd_I (x : Int) : zd x = I (decide (x < 0)) (lims x.natAbs) := rfl
theorem iv_zd (x : Int) : iv (decide (x < 0)) (lims x.natAbs) = x := by
  unfold iv
  rw [nv_lims]
  by_cases hx : x < 0
  · simp only [hx, decide_true, if_true]; omega
  · simp only [hx, decide_false, Bool.false_eq_true, if_false]; omega
theorem rZSub_meets (v w : Value) (s t : Bool) (a b : List Nat) (ha : Lim a) (hb : Lim b) (la : a.length ≤ 137438953472) (lb : b.length ≤ 137438953472) :
    Meets Tryz.prog 39 [v, w] [(v, I s a), (w, I t b)] (fun r os fs => os = [] ∧ fs = [(r, zd (iv s a - iv t b))]) := by
  refine meets_of_vc Tryz.func39 (by kernel_rfl) rfl (by kernel_rfl) (Nat.le_of_ble_eq_true rfl) ?_
  refine box_rule (Reads.fact (d := I s a) qM) fun p hp => ?_
  refine box_rule (Reads.fact (d := I t b) qM) fun q hq => ?_
  refine alloc_rule (d := I false []) fun o ho => ?_
  refine draw_rule [0, 1, 2, 3, 4] [0, 1, 2, 3, 4] (by kernel_rfl) (by kernel_rfl) ?_
  refine load_box (d := I s a) 2 rfl hp rfl (load_I _ _) fun x => ?_
  refine load_box (d := I t b) 1 rfl hq rfl (load_I _ _) fun y => ?_
  refine call_fn (rNeg_meets y t b hb (by omega)) (Seals.refl _ _) qS ?_
  rintro z _ _ ⟨rfl, rfl⟩
  have hyl : (lims (-iv t b).natAbs).length ≤ b.length := by rw [Int.natAbs_neg, iv_abs]; exact lims_length_le (nv_lt hb)
  refine call_fn (rZAdd_meets x z s (decide (-iv t b < 0)) a (lims (-iv t b).natAbs) ha (Lim_lims _) la (by omega)) (Seals.refl _ _) qS ?_
  rintro r _ _ ⟨rfl, rfl⟩
  rw [iv_zd, ← Int.sub_eq_add_neg]
  refine store_box (d := zd (iv s a - iv t b)) 0 rfl ho rfl (by kernel_rfl) ?_ ?_; exact Reads.fact qM
  refine load_box (d := zd (iv s a - iv t b)) 0 rfl ho rfl (load_I _ _) fun r => ?_
  exact fin ⟨rfl, rfl⟩ (Seals.trans (Seals.trans (Seals.trans (Seals.drop 0 _ _) (Seals.drop 0 _ _)) (Seals.drop 0 _ _)) (Seals.sub qS))
open Go.RowKit
theorem TEl.pos {P : Program} {e : TypeId} {size bytes : Nat} (he : TEl P e size bytes) : 0 < size := by
  obtain ⟨ti, z, i1, rfl, i3, i4, i5, i6⟩ := he.info
  exact i6
theorem Dat.cells_pos : ∀ d : Dat, 0 < d.cells
  | .one _ => Nat.zero_lt_one
  | .sl .. => Nat.zero_lt_one
  | .ptr _ => Nat.zero_lt_one
  | .mp .. => Nat.zero_lt_one
  | .cat a b => Nat.add_pos_left (Dat.cells_pos a) _
def LD {α : Type} (size : Nat) (f : α → Dat) (z : α) (l : List α) : Dat := .sl size l.length fun i => f (l.getD i z)
def ownL {α : Type} (size : Nat) (f : α → Dat) (z : α) (v : Value) (l : List α) : Own := own1 v size l.length fun i => f (l.getD i z)
section
variable {α : Type} {size : Nat} {f : α → Dat} {z : α} {P : Program} {t e ty : TypeId} {bytes : Nat} {os : List Own} {fs : List Fact} {K : Cont}
theorem empty_L [ht : TSl P t e size] [he : TEl P e size bytes] (f : α → Dat) (z : α) (hsz : size ≤ 16) (k : ∀ v, isSl v → K v (ownL size f z v [] :: os) fs) : BuildSliceK P t 0 [] os fs K := by
  have h1 := buildSlice_own (P := P) (t := t) (os := os) (fs := fs) (K := fun u os' fs' => ∃ os'' fs'', Seals os' fs' os'' fs'' ∧ K u os'' fs'') (n := 0) [] [] rfl rfl (by decide) hsz trivial
  refine ⟨Grw.sealed (h1 fun v hv => ⟨_, _, ?_, k v hv⟩).out⟩
  exact Seals.own_cong (hsz := .inl he.pos) (os := own1 v size 0 (fun i => ([] : List Dat).getD i (.one undef)) :: os) (fs := fs) 0 (n' := ([] : List α).length) (fun i => f (([] : List α).getD i z)) rfl rfl fun i hi => absurd hi (Nat.not_lt_zero _)
theorem Seals.knw_cong {v : Value} {n n' : Nat} {g g' : Nat → Dat} (hn : n = n') (h : ∀ i, i < n → g i = g' i) : Seals os ((v, .sl size n g) :: fs) os ((v, .sl size n' g') :: fs) := by
  subst hn
  exact Seals.trans (Seals.add (Knw.sl_cong (Knw.fact (List.Mem.head _)) h)) (Seals.sub fun F hF => by
    rcases List.mem_cons.1 hF with rfl | hF
    · exact .head _
    · exact .tail _ (.tail _ hF))
theorem lit_L [ht : TSl P t e size] [he : TEl P e size bytes] {x : Value} (f : α → Dat) (z : α) (a : α) (hsz : size ≤ 16) (hx : Reads os fs x (f a)) (hc : (f a).cells = size) (k : ∀ v, K v os ((v, LD size f z [a]) :: fs)) : BuildSliceK P t 1 [(0, x)] os fs K := by
  have h1 := buildSlice_fact (P := P) (t := t) (os := os) (fs := fs) (K := fun u os' fs' => ∃ os'' fs'', Seals os' fs' os'' fs'' ∧ K u os'' fs'') (n := 1) [x] [f a] rfl rfl (by decide) hsz ⟨hx, hc, trivial⟩
  refine ⟨Grw.sealed (h1 fun v => ⟨_, _, ?_, k v⟩).out⟩
  exact Seals.knw_cong rfl fun i hi => by
    have : i = 0 := by omega
    subst this; rfl
theorem append_L [ht : TSl P t e size] [he : TEl P e size bytes] {a b : Value} {l m : List α} (pos : Nat) (h : nthOwn os pos = some (ownL size f z a l)) (hs : isSl a) (hb : Knw os fs b (LD size f z m)) (hm : l.length + m.length ≤ 9223372036854775807) (hby : (l.length + m.length) * bytes ≤ 140737488355328)
    (k : ∀ v, isSl v → K v (setOwn os pos (ownL size f z v (l ++ m))) fs) : AppendK P [t, t] ty a b os fs K := by
  have h1 := append_rule (P := P) (t := t) (ty := ty) (K := fun u os' fs' => ∃ os'' fs'', Seals os' fs' os'' fs'' ∧ K u os'' fs'') pos h hs hb hm hby
  refine ⟨Dyn.sealed (h1 fun v hv => ⟨_, _, ?_, k v hv⟩).out⟩
  have h2 := Seals.own_cong (hsz := .inl he.pos) (os := setOwn os pos (own1 v size (l.length + m.length) (fun i => if i < l.length then f (l.getD i z) else f (m.getD (i - l.length) z)))) (fs := fs) pos (n' := (l ++ m).length) (fun i => f ((l ++ m).getD i z)) (nth_set h) (by simp) fun i hi => by
    simp only [List.getD_eq_getElem?_getD]
    by_cases hil : i < l.length
    · rw [if_pos hil, List.getElem?_append_left hil]
    · rw [if_neg hil, List.getElem?_append_right (by omega)]
  rw [set_set] at h2
  exact h2
theorem getD_setL {l : List α} {i j : Nat} {x z : α} (h : j < l.length) : (l.set j x).getD i z = if i = j then x else l.getD i z := by
  simp only [List.getD_eq_getElem?_getD, List.getElem?_set]
  by_cases hij : j = i
  · subst hij; simp [h]
  · have : i ≠ j := fun e => hij e.symm
    simp [hij, this]
theorem Seals.L {v : Value} {l : List α} (pos : Nat) (h : nthOwn os pos = some (ownL size f z v l)) (hs : isSl v) : Seals os fs (dropOwn os pos) ((v, LD size f z l) :: fs) :=
  Seals.slice pos (fun i => f (l.getD i z)) h hs fun _ _ => rfl
end
abbrev Row := List (Bool × List Nat)
def z0 : Bool × List Nat := (false, [])
def J (x : Bool × List Nat) : Dat := I x.1 x.2
def jv (x : Bool × List Nat) : Int := iv x.1 x.2
def V (r : Row) : Dat := LD 2 J z0 r
def W (m : List Row) : Dat := LD 1 V [] m
def vv (r : Row) : List Int := r.map jv
def ww (m : List Row) : List (List Int) := m.map vv
def cn (x : Int) : Bool × List Nat := (decide (x < 0), lims x.natAbs)
def vd (l : List Int) : Dat := V (l.map cn)
def wd (m : List (List Int)) : Dat := W (m.map (·.map cn))
theorem jv_cn (x : Int) : jv (cn x) = x := iv_zd x
theorem vv_cn (l : List Int) : vv (l.map cn) = l := by
  unfold vv; rw [List.map_map]
  conv => rhs; rw [← List.map_id l]
  exact List.map_congr_left fun x _ => jv_cn x
theorem ww_cn (m : List (List Int)) : ww (m.map (·.map cn)) = m := by
  unfold ww; rw [List.map_map]
  conv => rhs; rw [← List.map_id m]
  exact List.map_congr_left fun x _ => vv_cn x
def Fit (k : Nat) (r : Row) : Prop := ∀ x, x ∈ r → Lim x.2 ∧ x.2.length ≤ k
def Fits (k : Nat) (m : List Row) : Prop := ∀ r, r ∈ m → Fit k r
theorem Fit.get {k : Nat} {r : Row} (h : Fit k r) (i : Nat) : Lim (r.getD i z0).2 ∧ (r.getD i z0).2.length ≤ k := by
  rw [List.getD_eq_getElem?_getD]
  cases hi : r[i]? with
  | none => exact ⟨Lim.nil, Nat.zero_le _⟩
  | some x => exact h x (List.mem_of_getElem? hi)
theorem Fits.get {k : Nat} {m : List Row} (h : Fits k m) (i : Nat) : Fit k (m.getD i []) := by
  rw [List.getD_eq_getElem?_getD]
  cases hi : m[i]? with
  | none => exact fun _ h => by cases h
  | some x => exact h x (List.mem_of_getElem? hi)
theorem load_V (r : Row) : LoadAs Tryz.prog 22 (V r) := (inferInstance : TOne Tryz.prog 22)
theorem load_P (r : Row) : LoadAs Tryz.prog 23 (V r) := (inferInstance : TOne Tryz.prog 23)
theorem load_J (x : Bool × List Nat) : LoadAs Tryz.prog 26 (J x) := load_I _ _
open Go.RowKit
theorem AppendK.post {P : Program} {ts : List TypeId} {ty : TypeId} {a b : Value} {os : List Own} {fs : List Fact} {K : Cont} (h : AppendK P ts ty a b os fs fun v os' fs' => ∃ os'' fs'', Seals os' fs' os'' fs'' ∧ K v os'' fs'') : AppendK P ts ty a b os fs K :=
  ⟨Dyn.sealed h.out⟩
theorem StoreK.post {P : Program} {t : TypeId} {a b : Value} {os : List Own} {fs : List Fact} {K : Cont} (h : StoreK P t a b os fs fun v os' fs' => ∃ os'' fs'', Seals os' fs' os'' fs'' ∧ K v os'' fs'') : StoreK P t a b os fs K :=
  ⟨Dyn.sealed h.out⟩
theorem list_eq_of_getD {l m : List Nat} (hl : l.length = m.length) (h : ∀ i, i < l.length → l.getD i 0 = m.getD i 0) : l = m := by
  refine List.ext_getElem hl fun n h1 h2 => ?_
  have := h n h1
  simpa [List.getD_eq_getElem?_getD, h1, h2] using this
theorem exact_meets (v w : Value) (x y : Bool × List Nat) :
    Meets Tryz.prog 47 [v, w] [(v, J x), (w, J y)] (fun r os fs => os = [] ∧ fs = [] ∧ r = .bool (decide (x = y))) := by
  refine meets_of_vc Tryz.func47 (by kernel_rfl) rfl (by kernel_rfl) (Nat.le_of_ble_eq_true rfl) ?_
  refine box_rule (Reads.fact (d := J x) qM) fun p hp => ?_
  refine box_rule (Reads.fact (d := J y) qM) fun q hq => ?_
  refine field_box 1 rfl hp ?_
  refine load_box_field_one 1 rfl (Part.left (Part.refl _)) ?_
  refine field_box 0 rfl hq ?_
  refine load_box_field_one 0 rfl (Part.left (Part.refl _)) ?_
  refine bne_split (fun hc => ?_) (fun hc => ?_)
  · refine fin ⟨rfl, rfl, ?_⟩ (Seals.trans (Seals.trans (Seals.drop 0 _ _) (Seals.drop 0 _ _)) (Seals.nil _ _))
    rw [decide_eq_false (fun e => hc (by rw [e]))]; rfl
  ·
    refine field_box 1 rfl hp ?_
    refine load_box_field 1 rfl (Part.right (Part.refl _)) (load_L _) fun u => ?_
    refine len_fact qM fun _ => ?_
    refine field_box 0 rfl hq ?_
    refine load_box_field 0 rfl (Part.right (Part.refl _)) (load_L _) fun u' => ?_
    refine len_fact qM fun _ => ?_
    refine cmp_split _ rfl (fun hl => ?_) (fun hl => ?_)
    · refine fin ⟨rfl, rfl, ?_⟩ (Seals.trans (Seals.trans (Seals.drop 0 _ _) (Seals.drop 0 _ _)) (Seals.nil _ _))
      rw [decide_eq_false (fun e => hl (by rw [e]))]; rfl
    · have hl' : x.2.length = y.2.length := by omega
      refine loop_rule (X := Nat) (fun i => ([(2, p), (3, q), (5, .int .i64 (i : Nat))], [own1 q 2 1 (fun _ => J y), own1 p 2 1 (fun _ => J x)], []))
        (fun i => i ≤ x.2.length ∧ ∀ k, k < i → x.2.getD k 0 = y.2.getD k 0) (fun i => x.2.length - i) rfl ?_ ?_
      · exact again 0 ⟨Nat.zero_le _, fun k hk => absurd hk (Nat.not_lt_zero _)⟩ trivial qF (Seals.nil _ _)
      · rintro i ⟨h1, h2⟩
        refine field_box 1 rfl hp ?_
        refine load_box_field 1 rfl (Part.right (Part.refl _)) (load_L _) fun u => ?_
        refine len_fact qM fun _ => ?_
        refine cmp_split _ rfl (fun hi => ?_) (fun hi => ?_)
        · refine draw_rule [0, 1, 2, 3, 4, 5, 6, 7, 8, 9, 10] [0, 1, 2, 3, 4, 5, 6, 7, 8, 9, 10] (by kernel_rfl) (by kernel_rfl) ?_
          refine field_box 1 rfl hp ?_
          refine load_box_field 1 rfl (Part.right (Part.refl _)) (load_L _) fun u1 => ?_
          refine index_fact qM i rfl (by omega) fun a1 => ?_
          refine load_one qM ?_
          refine field_box 0 rfl hq ?_
          refine load_box_field 0 rfl (Part.right (Part.refl _)) (load_L _) fun u2 => ?_
          refine index_fact qM i rfl (by omega) fun a2 => ?_
          refine load_one qM ?_
          refine cmp_split _ rfl (fun he => ?_) (fun he => ?_)
          · refine fin ⟨rfl, rfl, ?_⟩ (Seals.trans (Seals.trans (Seals.drop 0 _ _) (Seals.drop 0 _ _)) (Seals.nil _ _))
            rw [decide_eq_false (fun e => he (by rw [e]))]; rfl
          · refine ar rfl qI ?_
            refine again (i + 1) ⟨by omega, fun k hk => ?_⟩ (by simp only; omega) qF (Seals.nil _ _)
            by_cases hki : k = i
            · subst hki; omega
            · exact h2 k (by omega)
        · refine fin ⟨rfl, rfl, ?_⟩ (Seals.trans (Seals.trans (Seals.drop 0 _ _) (Seals.drop 0 _ _)) (Seals.nil _ _))
          rw [decide_eq_true (Prod.ext_iff.2 ⟨hc, list_eq_of_getD hl' fun k hk => h2 k (by omega)⟩)]; rfl
theorem row_eq_of_getD {α : Type} {l m : List α} (z : α) (hl : l.length = m.length) (h : ∀ i, i < l.length → l.getD i z = m.getD i z) : l = m := by
  refine List.ext_getElem hl fun n h1 h2 => ?_
  have := h n h1
  simpa [List.getD_eq_getElem?_getD, h1, h2] using this
theorem exactAll_meets (v w : Value) (a b : Row) :
    Meets Tryz.prog 26 [v, w] [(v, V a), (w, V b)] (fun r os fs => os = [] ∧ fs = [] ∧ r = .bool (decide (a = b))) := by
  refine meets_of_vc Tryz.func26 (by kernel_rfl) rfl (by kernel_rfl) (Nat.le_of_ble_eq_true rfl) ?_
  refine len_fact qM fun _ => ?_
  refine len_fact qM fun _ => ?_
  refine cmp_split _ rfl (fun hl => ?_) (fun hl => ?_)
  · refine fin ⟨rfl, rfl, ?_⟩ (Seals.nil _ _)
    rw [decide_eq_false (fun e => hl (by rw [e]))]; rfl
  · have hl' : a.length = b.length := by omega
    refine loop_rule (X := Nat) (fun i => ([(0, v), (1, w), (5, .int .i64 (i : Nat))], [], [(v, V a), (w, V b)]))
      (fun i => i ≤ a.length ∧ ∀ k, k < i → a.getD k z0 = b.getD k z0) (fun i => a.length - i) rfl ?_ ?_
    · exact again 0 ⟨Nat.zero_le _, fun k hk => absurd hk (Nat.not_lt_zero _)⟩ trivial qF (Seals.sub qS)
    · rintro i ⟨h1, h2⟩
      refine len_fact qM fun _ => ?_
      refine cmp_split _ rfl (fun hi => ?_) (fun hi => ?_)
      · refine draw_rule [0, 1, 2, 3, 4, 5, 6, 7, 8, 9] [0, 1, 2, 3, 4, 5, 6, 7, 8, 9] (by kernel_rfl) (by kernel_rfl) ?_
        refine index_fact qM i rfl (by omega) fun a1 => ?_
        refine load_fact (d := J (a.getD i z0)) qM (load_J _) fun x1 => ?_
        refine index_fact qM i rfl (by omega) fun a2 => ?_
        refine load_fact (d := J (b.getD i z0)) qM (load_J _) fun x2 => ?_
        refine call_fn (exact_meets x1 x2 (a.getD i z0) (b.getD i z0)) (Seals.refl _ _) qS ?_
        rintro _ _ _ ⟨rfl, rfl, rfl⟩
        by_cases he : a.getD i z0 = b.getD i z0
        · rw [decide_eq_true he]
          refine ar rfl qI ?_
          refine again (i + 1) ⟨by omega, fun k hk => ?_⟩ (by simp only; omega) qF (Seals.sub qS)
          by_cases hki : k = i
          · subst hki; exact he
          · exact h2 k (by omega)
        · rw [decide_eq_false he]
          refine fin ⟨rfl, rfl, ?_⟩ (Seals.nil _ _)
          rw [decide_eq_false (fun e => he (by rw [e]))]; rfl
      · refine fin ⟨rfl, rfl, ?_⟩ (Seals.nil _ _)
        rw [decide_eq_true (row_eq_of_getD z0 hl' fun k hk => h2 k (by omega))]; rfl
theorem rFits_meets (v : Value) (a : Row) (n k : Nat) :
    Meets Tryz.prog 49 [v, .int .i64 (n : Int), .int .i64 (k : Int)] [(v, V a)] (fun r os fs => os = [] ∧ fs = [] ∧ r = .bool (decide (a.length ≤ n ∧ ∀ x, x ∈ a → x.2.length ≤ k))) := by
  refine meets_of_vc Tryz.func49 (by kernel_rfl) rfl (by kernel_rfl) (Nat.le_of_ble_eq_true rfl) ?_
  refine len_fact qM fun _ => ?_
  refine cmp_split _ rfl (fun hl => ?_) (fun hl => ?_)
  · refine fin ⟨rfl, rfl, ?_⟩ (Seals.nil _ _)
    rw [decide_eq_false (fun e => by have := e.1; omega)]; rfl
  · refine loop_rule (X := Nat) (fun i => ([(0, v), (1, .int .i64 (n : Nat)), (2, .int .i64 (k : Nat)), (7, .int .i64 (i : Nat))], [], [(v, V a)]))
      (fun i => i ≤ a.length ∧ ∀ j, j < i → (a.getD j z0).2.length ≤ k) (fun i => a.length - i) rfl ?_ ?_
    · exact again 0 ⟨Nat.zero_le _, fun k hk => absurd hk (Nat.not_lt_zero _)⟩ trivial qF (Seals.sub qS)
    · rintro i ⟨h1, h2⟩
      refine len_fact qM fun _ => ?_
      refine cmp_split _ rfl (fun hi => ?_) (fun hi => ?_)
      · have hlt : i < a.length := by omega
        refine index_fact qM i rfl hlt fun a1 => ?_
        refine field_fact (off := 1) (d := J (a.getD i z0)) (d' := U (a.getD i z0).2) qM (Part.right (Part.refl _)) fun a2 => ?_
        refine load_fact (d := U (a.getD i z0).2) qM (load_L _) fun x1 => ?_
        refine len_fact qM fun _ => ?_
        refine cmp_split _ rfl (fun he => ?_) (fun he => ?_)
        · refine fin ⟨rfl, rfl, ?_⟩ (Seals.nil _ _)
          refine congrArg Value.bool (decide_eq_false fun e => ?_).symm
          have := e.2 (a.getD i z0) (by rw [List.getD_eq_getElem?_getD, List.getElem?_eq_getElem hlt]; exact List.getElem_mem hlt)
          omega
        · refine ar rfl qI ?_
          refine again (i + 1) ⟨by omega, fun j hj => ?_⟩ (by simp only; omega) qF (Seals.sub qS)
          by_cases hji : j = i
          · subst hji; omega
          · exact h2 j (by omega)
      · refine fin ⟨rfl, rfl, ?_⟩ (Seals.nil _ _)
        refine congrArg Value.bool (decide_eq_true ⟨by omega, fun x hx => ?_⟩).symm
        obtain ⟨j, hj, rfl⟩ := List.getElem_of_mem hx
        have := h2 j (by omega)
        simpa [List.getD_eq_getElem?_getD, hj] using this
end Go.Proofs.YtjebljkoiaojaaaGreat
