/- Towards the statement, part 3 of 5: contracts of functions, and what they rest on. Conditions: each theorem names its own. -/
import Derived.Test.YtfkeohlpcjpkbaaM2
import Derived.ProofKit
import Derived.Deep.Slices
import Derived.Maps.Range
set_option linter.unusedVariables false
set_option linter.unusedSimpArgs false

namespace Go.Proofs.Ytfkeohlpcjpkbaa
open Go.RowKit
theorem zof_meets (x : Int) (h1 : -9223372036854775808 ≤ x) (h2 : x < 9223372036854775808) :
    Meets Try.prog 43 [.int .i64 x] [] (fun r os fs => os = [] ∧ fs = [(r, zd x)]) := by
  refine meets_of_vc Try.func43 (by kernel_rfl) rfl (by kernel_rfl) (Nat.le_of_ble_eq_true rfl) ?_
  refine alloc_rule (d := I false []) fun o ho => ?_
  refine conv_int ⟨_, Try.underlying2⟩ Try.underlying74 (x % 18446744073709551616) (wrap_u64 _) ?_
  refine cmp_split _ rfl (fun hc => ?_) (fun hc => ?_)
  · refine un_neg (m := ((x.natAbs : Nat) : Int)) (by rw [wrap_u64]; omega) ?_
    refine cmp_true rfl (by omega) ?_
    refine lit_U x.natAbs rfl fun u => ?_
    refine call_fn (norm_meets u [x.natAbs] (Lim.cons (by omega) Lim.nil) (by simp)) (Seals.refl _ _) (by repeat (first | exact Sub.nil _ | refine Sub.cons (by repeat (first | exact List.Mem.head _ | apply List.Mem.tail)) ?_)) ?_
    rintro w _ _ ⟨rfl, rfl⟩
    rw [show nv [x.natAbs] = x.natAbs from by simp [nv]]
    refine call_fn (made_of w true x.natAbs x (by simp only [if_true]; omega)) (Seals.refl _ _) (by repeat (first | exact Sub.nil _ | refine Sub.cons (by repeat (first | exact List.Mem.head _ | apply List.Mem.tail)) ?_)) ?_
    rintro r _ _ ⟨rfl, rfl⟩
    refine store_box (d := zd x) 0 rfl ho rfl (by kernel_rfl) ?_ ?_; exact Reads.fact (by repeat (first | exact List.Mem.head _ | apply List.Mem.tail))
    refine load_box (d := zd x) 0 rfl ho rfl (load_I _ _) fun r => ?_
    exact fin ⟨rfl, rfl⟩ (Seals.trans (Seals.drop 0 _ _) (Seals.sub (by repeat (first | exact Sub.nil _ | refine Sub.cons (by repeat (first | exact List.Mem.head _ | apply List.Mem.tail)) ?_))))
  · refine cmp_false rfl (by omega) ?_
    refine lit_U x.natAbs (by omega) fun u => ?_
    refine call_fn (norm_meets u [x.natAbs] (Lim.cons (by omega) Lim.nil) (by simp)) (Seals.refl _ _) (by repeat (first | exact Sub.nil _ | refine Sub.cons (by repeat (first | exact List.Mem.head _ | apply List.Mem.tail)) ?_)) ?_
    rintro w _ _ ⟨rfl, rfl⟩
    rw [show nv [x.natAbs] = x.natAbs from by simp [nv]]
    refine call_fn (made_of w false x.natAbs x (by simp only [Bool.false_eq_true, if_false]; omega)) (Seals.refl _ _) (by repeat (first | exact Sub.nil _ | refine Sub.cons (by repeat (first | exact List.Mem.head _ | apply List.Mem.tail)) ?_)) ?_
    rintro r _ _ ⟨rfl, rfl⟩
    refine store_box (d := zd x) 0 rfl ho rfl (by kernel_rfl) ?_ ?_; exact Reads.fact (by repeat (first | exact List.Mem.head _ | apply List.Mem.tail))
    refine load_box (d := zd x) 0 rfl ho rfl (load_I _ _) fun r => ?_
    exact fin ⟨rfl, rfl⟩ (Seals.trans (Seals.drop 0 _ _) (Seals.sub (by repeat (first | exact Sub.nil _ | refine Sub.cons (by repeat (first | exact List.Mem.head _ | apply List.Mem.tail)) ?_))))
theorem bit_nil : (lims 0).length = 0 := by rw [lims_zero]; rfl
theorem div_signs {n d : Nat} {s t : Bool} (hd : d ≠ 0) (h : s = true ∧ n % d ≠ 0) :
    (if s then -(n : Int) else n) / (if t then -(d : Int) else d) = (if (s != t) then -((n / d + 1 : Nat) : Int) else ((n / d + 1 : Nat) : Int)) ∧
    (if s then -(n : Int) else n) % (if t then -(d : Int) else d) = ((d - n % d : Nat) : Int) := by
  obtain ⟨rfl, hr⟩ := h
  have hm := Nat.mod_lt n (Nat.pos_of_ne_zero hd)
  have hdm := Nat.div_add_mod n d
  have h1 : (-(n : Int)) % (d : Int) = ((d - n % d : Nat) : Int) ∧ (-(n : Int)) / (d : Int) = -((n / d + 1 : Nat) : Int) := by
    have := Int.ediv_emod_unique (a := -(n : Int)) (b := (d : Int)) (r := ((d - n % d : Nat) : Int)) (q := -((n / d + 1 : Nat) : Int)) (by omega)
    refine ((this.2 ⟨?_, by omega, by omega⟩).symm)
    have e : (d : Int) * -((n / d + 1 : Nat) : Int) = -((d * (n / d) : Nat) : Int) - d := by
      rw [Int.mul_neg]; push_cast; rw [Int.mul_add]; omega
    rw [e]
    omega
  cases t with
  | false => simp only [if_true, Bool.false_eq_true, if_false]; exact ⟨h1.2, h1.1⟩
  | true =>
    simp only [if_true]
    rw [Int.ediv_neg, Int.emod_neg, h1.1, h1.2]
    exact ⟨by simp, rfl⟩
theorem div_signs0 {n d : Nat} {s t : Bool} (h : ¬ (s = true ∧ n % d ≠ 0)) :
    (if s then -(n : Int) else n) / (if t then -(d : Int) else d) = (if (s != t) then -((n / d : Nat) : Int) else ((n / d : Nat) : Int)) ∧
    (if s then -(n : Int) else n) % (if t then -(d : Int) else d) = ((n % d : Nat) : Int) := by
  cases s with
  | false => cases t <;> simp [Int.ediv_neg, Int.emod_neg]
  | true =>
    have hr : n % d = 0 := by
      rcases Nat.eq_zero_or_pos (n % d) with h0 | h0
      · exact h0
      · exact absurd ⟨rfl, by omega⟩ h
    have hdvd : (d : Int) ∣ (n : Int) := Int.natCast_dvd_natCast.2 (Nat.dvd_of_mod_eq_zero hr)
    have h1 : (-(n : Int)) / (d : Int) = -((n / d : Nat) : Int) := by rw [Int.neg_ediv_of_dvd hdvd, Int.natCast_ediv]
    have h2 : (-(n : Int)) % (d : Int) = ((n % d : Nat) : Int) := by rw [hr]; exact Int.emod_eq_zero_of_dvd (Int.dvd_neg.2 hdvd)
    cases t with
    | false => simp only [if_true, Bool.false_eq_true, if_false]; exact ⟨h1, h2⟩
    | true => simp only [if_true]; rw [Int.ediv_neg, Int.emod_neg, h1, h2]; exact ⟨by simp, rfl⟩
theorem zdivmod_meets (v w : Value) (s t : Bool) (a b : List Nat) (ha : Lim a) (hb : Lim b) (la : a.length ≤ 137438953472) (lb : b.length ≤ 137438953472) (h0 : nv b ≠ 0) :
    Meets Try.prog 76 [v, w] [(v, I s a), (w, I t b)] (fun r os fs => os = [] ∧ ∃ q m, r = .tuple #[q, m, .bool true] ∧ fs = [(q, zd (iv s a / iv t b)), (m, zd (iv s a % iv t b))]) := by
  have hml := Nat.mod_lt (nv a) (Nat.pos_of_ne_zero h0)
  have hrl := lims_length_le (Nat.lt_trans hml (nv_lt hb))
  have hql := lims_length_le (Nat.lt_of_le_of_lt (Nat.div_le_self (nv a) (nv b)) (nv_lt ha))
  have key1 := @div_signs (nv a) (nv b) s t h0
  have key0 := @div_signs0 (nv a) (nv b) s t
  change (s = true ∧ _ → iv s a / iv t b = _ ∧ iv s a % iv t b = _) at key1
  change (¬ (s = true ∧ _) → iv s a / iv t b = _ ∧ iv s a % iv t b = _) at key0
  have hrp : 0 < (lims (nv a % nv b)).length ↔ nv a % nv b ≠ 0 := ⟨fun h e => by rw [e, lims_zero] at h; exact absurd h (by decide), fun h => List.length_pos_iff.2 fun e => h (lims_eq_nil.1 e)⟩
  refine meets_of_vc Try.func76 (by kernel_rfl) rfl (by kernel_rfl) (Nat.le_of_ble_eq_true rfl) ?_
  refine box_rule (Reads.fact (d := I s a) (by repeat (first | exact List.Mem.head _ | apply List.Mem.tail))) fun p hp => ?_
  refine box_rule (Reads.fact (d := I t b) (by repeat (first | exact List.Mem.head _ | apply List.Mem.tail))) fun q hq => ?_
  refine alloc_rule (d := I false []) fun o ho => ?_
  refine alloc_rule (d := I false []) fun o' ho' => ?_
  refine field_box 3 rfl hp ?_
  refine load_box_field 3 rfl (Part.right (Part.refl _)) (load_L _) fun x => ?_
  refine field_box 2 rfl hq ?_
  refine load_box_field 2 rfl (Part.right (Part.refl _)) (load_L _) fun y => ?_
  refine call_fn (divmod_meets x y a b ha hb (by omega) (by omega) h0) (Seals.refl _ _) (by repeat (first | exact Sub.nil _ | refine Sub.cons (by repeat (first | exact List.Mem.head _ | apply List.Mem.tail)) ?_)) ?_
  rintro _ _ _ ⟨rfl, n, d, rfl, rfl⟩
  refine field_box 3 rfl hp ?_
  refine load_box_field_one 3 rfl (Part.left (Part.refl _)) ?_
  cases s with
  | false =>
    have k0 := key0 (fun h => by cases h.1)
    refine field_box 3 rfl hp ?_
    refine load_box_field_one 3 rfl (Part.left (Part.refl _)) ?_
    refine field_box 2 rfl hq ?_
    refine load_box_field_one 2 rfl (Part.left (Part.refl _)) ?_
    refine bne_split (fun hc => ?_) (fun hc => ?_)
    · refine call_fn (made_of n true (nv a / nv b) (iv false a / iv t b) (by rw [k0.1, if_pos (bne_iff_ne.2 hc)]; rfl)) (Seals.refl _ _) (by repeat (first | exact Sub.nil _ | refine Sub.cons (by repeat (first | exact List.Mem.head _ | apply List.Mem.tail)) ?_)) ?_
      rintro r1 _ _ ⟨rfl, rfl⟩
      refine call_fn (made_of d false (nv a % nv b) (iv false a % iv t b) k0.2) (Seals.refl _ _) (by repeat (first | exact Sub.nil _ | refine Sub.cons (by repeat (first | exact List.Mem.head _ | apply List.Mem.tail)) ?_)) ?_
      rintro r2 _ _ ⟨rfl, rfl⟩
      refine store_box (d := zd (iv false a / iv t b)) 1 rfl ho rfl (by kernel_rfl) ?_ ?_; exact Reads.fact (by repeat (first | exact List.Mem.head _ | apply List.Mem.tail))
      refine store_box (d := zd (iv false a % iv t b)) 0 rfl ho' rfl (by kernel_rfl) ?_ ?_; exact Reads.fact (by repeat (first | exact List.Mem.head _ | apply List.Mem.tail))
      refine load_box (d := zd (iv false a / iv t b)) 1 rfl ho rfl (load_I _ _) fun r => ?_
      refine load_box (d := zd (iv false a % iv t b)) 0 rfl ho' rfl (load_I _ _) fun r' => ?_
      refine fin ⟨rfl, r, r', rfl, rfl⟩ (Seals.trans (Seals.trans (Seals.trans (Seals.trans (Seals.drop 0 _ _) (Seals.drop 0 _ _)) (Seals.drop 0 _ _)) (Seals.drop 0 _ _)) (Seals.sub (by repeat (first | exact Sub.nil _ | refine Sub.cons (by repeat (first | exact List.Mem.head _ | apply List.Mem.tail)) ?_))))
    · refine call_fn (made_of n false (nv a / nv b) (iv false a / iv t b) (by rw [k0.1, if_neg (fun h => bne_iff_ne.1 h hc)]; rfl)) (Seals.refl _ _) (by repeat (first | exact Sub.nil _ | refine Sub.cons (by repeat (first | exact List.Mem.head _ | apply List.Mem.tail)) ?_)) ?_
      rintro r1 _ _ ⟨rfl, rfl⟩
      refine call_fn (made_of d false (nv a % nv b) (iv false a % iv t b) k0.2) (Seals.refl _ _) (by repeat (first | exact Sub.nil _ | refine Sub.cons (by repeat (first | exact List.Mem.head _ | apply List.Mem.tail)) ?_)) ?_
      rintro r2 _ _ ⟨rfl, rfl⟩
      refine store_box (d := zd (iv false a / iv t b)) 1 rfl ho rfl (by kernel_rfl) ?_ ?_; exact Reads.fact (by repeat (first | exact List.Mem.head _ | apply List.Mem.tail))
      refine store_box (d := zd (iv false a % iv t b)) 0 rfl ho' rfl (by kernel_rfl) ?_ ?_; exact Reads.fact (by repeat (first | exact List.Mem.head _ | apply List.Mem.tail))
      refine load_box (d := zd (iv false a / iv t b)) 1 rfl ho rfl (load_I _ _) fun r => ?_
      refine load_box (d := zd (iv false a % iv t b)) 0 rfl ho' rfl (load_I _ _) fun r' => ?_
      refine fin ⟨rfl, r, r', rfl, rfl⟩ (Seals.trans (Seals.trans (Seals.trans (Seals.trans (Seals.drop 0 _ _) (Seals.drop 0 _ _)) (Seals.drop 0 _ _)) (Seals.drop 0 _ _)) (Seals.sub (by repeat (first | exact Sub.nil _ | refine Sub.cons (by repeat (first | exact List.Mem.head _ | apply List.Mem.tail)) ?_))))
  | true =>
    refine len_fact (by repeat (first | exact List.Mem.head _ | apply List.Mem.tail)) fun _ => ?_
    refine cmp_split _ rfl (fun hc => ?_) (fun hc => ?_)
    · have hr : nv a % nv b ≠ 0 := hrp.1 (by omega)
      have k1 := key1 ⟨rfl, hr⟩
      refine lit_U 1 rfl fun u => ?_
      refine call_fn (add_meets n u (lims (nv a / nv b)) [1] (Lim_lims _) (Lim.cons (by decide) Lim.nil) (by omega) (by simp)) (Seals.refl _ _) (by repeat (first | exact Sub.nil _ | refine Sub.cons (by repeat (first | exact List.Mem.head _ | apply List.Mem.tail)) ?_)) ?_
      rintro n' _ _ ⟨rfl, rfl⟩
      rw [nv_lims, show nv [1] = 1 from by simp [nv]]
      refine field_box 2 rfl hq ?_
      refine load_box_field 2 rfl (Part.right (Part.refl _)) (load_L _) fun y' => ?_
      refine call_fn (sub_meets y' d b (lims (nv a % nv b)) hb (Lim_lims _) (by omega)) (Seals.refl _ _) (by repeat (first | exact Sub.nil _ | refine Sub.cons (by repeat (first | exact List.Mem.head _ | apply List.Mem.tail)) ?_)) ?_
      rw [nv_lims]
      rintro _ _ _ ⟨rfl, ⟨hlt, rfl, rfl⟩ | ⟨hle, d', rfl, rfl⟩⟩
      · omega
      refine field_box 3 rfl hp ?_
      refine load_box_field_one 3 rfl (Part.left (Part.refl _)) ?_
      refine field_box 2 rfl hq ?_
      refine load_box_field_one 2 rfl (Part.left (Part.refl _)) ?_
      refine bne_split (fun hc => ?_) (fun hc => ?_)
      · refine call_fn (made_of n' true (nv a / nv b + 1) (iv true a / iv t b) (by rw [k1.1, if_pos (bne_iff_ne.2 hc)]; rfl)) (Seals.refl _ _) (by repeat (first | exact Sub.nil _ | refine Sub.cons (by repeat (first | exact List.Mem.head _ | apply List.Mem.tail)) ?_)) ?_
        rintro r1 _ _ ⟨rfl, rfl⟩
        refine call_fn (made_of d' false (nv b - nv a % nv b) (iv true a % iv t b) k1.2) (Seals.refl _ _) (by repeat (first | exact Sub.nil _ | refine Sub.cons (by repeat (first | exact List.Mem.head _ | apply List.Mem.tail)) ?_)) ?_
        rintro r2 _ _ ⟨rfl, rfl⟩
        refine store_box (d := zd (iv true a / iv t b)) 1 rfl ho rfl (by kernel_rfl) ?_ ?_; exact Reads.fact (by repeat (first | exact List.Mem.head _ | apply List.Mem.tail))
        refine store_box (d := zd (iv true a % iv t b)) 0 rfl ho' rfl (by kernel_rfl) ?_ ?_; exact Reads.fact (by repeat (first | exact List.Mem.head _ | apply List.Mem.tail))
        refine load_box (d := zd (iv true a / iv t b)) 1 rfl ho rfl (load_I _ _) fun r => ?_
        refine load_box (d := zd (iv true a % iv t b)) 0 rfl ho' rfl (load_I _ _) fun r' => ?_
        refine fin ⟨rfl, r, r', rfl, rfl⟩ (Seals.trans (Seals.trans (Seals.trans (Seals.trans (Seals.drop 0 _ _) (Seals.drop 0 _ _)) (Seals.drop 0 _ _)) (Seals.drop 0 _ _)) (Seals.sub (by repeat (first | exact Sub.nil _ | refine Sub.cons (by repeat (first | exact List.Mem.head _ | apply List.Mem.tail)) ?_))))
      · refine call_fn (made_of n' false (nv a / nv b + 1) (iv true a / iv t b) (by rw [k1.1, if_neg (fun h => bne_iff_ne.1 h hc)]; rfl)) (Seals.refl _ _) (by repeat (first | exact Sub.nil _ | refine Sub.cons (by repeat (first | exact List.Mem.head _ | apply List.Mem.tail)) ?_)) ?_
        rintro r1 _ _ ⟨rfl, rfl⟩
        refine call_fn (made_of d' false (nv b - nv a % nv b) (iv true a % iv t b) k1.2) (Seals.refl _ _) (by repeat (first | exact Sub.nil _ | refine Sub.cons (by repeat (first | exact List.Mem.head _ | apply List.Mem.tail)) ?_)) ?_
        rintro r2 _ _ ⟨rfl, rfl⟩
        refine store_box (d := zd (iv true a / iv t b)) 1 rfl ho rfl (by kernel_rfl) ?_ ?_; exact Reads.fact (by repeat (first | exact List.Mem.head _ | apply List.Mem.tail))
        refine store_box (d := zd (iv true a % iv t b)) 0 rfl ho' rfl (by kernel_rfl) ?_ ?_; exact Reads.fact (by repeat (first | exact List.Mem.head _ | apply List.Mem.tail))
        refine load_box (d := zd (iv true a / iv t b)) 1 rfl ho rfl (load_I _ _) fun r => ?_
        refine load_box (d := zd (iv true a % iv t b)) 0 rfl ho' rfl (load_I _ _) fun r' => ?_
        refine fin ⟨rfl, r, r', rfl, rfl⟩ (Seals.trans (Seals.trans (Seals.trans (Seals.trans (Seals.drop 0 _ _) (Seals.drop 0 _ _)) (Seals.drop 0 _ _)) (Seals.drop 0 _ _)) (Seals.sub (by repeat (first | exact Sub.nil _ | refine Sub.cons (by repeat (first | exact List.Mem.head _ | apply List.Mem.tail)) ?_))))
    · have k0 := key0 (fun h => hc (by have := hrp.2 h.2; omega))
      refine field_box 3 rfl hp ?_
      refine load_box_field_one 3 rfl (Part.left (Part.refl _)) ?_
      refine field_box 2 rfl hq ?_
      refine load_box_field_one 2 rfl (Part.left (Part.refl _)) ?_
      refine bne_split (fun hc => ?_) (fun hc => ?_)
      · refine call_fn (made_of n true (nv a / nv b) (iv true a / iv t b) (by rw [k0.1, if_pos (bne_iff_ne.2 hc)]; rfl)) (Seals.refl _ _) (by repeat (first | exact Sub.nil _ | refine Sub.cons (by repeat (first | exact List.Mem.head _ | apply List.Mem.tail)) ?_)) ?_
        rintro r1 _ _ ⟨rfl, rfl⟩
        refine call_fn (made_of d false (nv a % nv b) (iv true a % iv t b) k0.2) (Seals.refl _ _) (by repeat (first | exact Sub.nil _ | refine Sub.cons (by repeat (first | exact List.Mem.head _ | apply List.Mem.tail)) ?_)) ?_
        rintro r2 _ _ ⟨rfl, rfl⟩
        refine store_box (d := zd (iv true a / iv t b)) 1 rfl ho rfl (by kernel_rfl) ?_ ?_; exact Reads.fact (by repeat (first | exact List.Mem.head _ | apply List.Mem.tail))
        refine store_box (d := zd (iv true a % iv t b)) 0 rfl ho' rfl (by kernel_rfl) ?_ ?_; exact Reads.fact (by repeat (first | exact List.Mem.head _ | apply List.Mem.tail))
        refine load_box (d := zd (iv true a / iv t b)) 1 rfl ho rfl (load_I _ _) fun r => ?_
        refine load_box (d := zd (iv true a % iv t b)) 0 rfl ho' rfl (load_I _ _) fun r' => ?_
        refine fin ⟨rfl, r, r', rfl, rfl⟩ (Seals.trans (Seals.trans (Seals.trans (Seals.trans (Seals.drop 0 _ _) (Seals.drop 0 _ _)) (Seals.drop 0 _ _)) (Seals.drop 0 _ _)) (Seals.sub (by repeat (first | exact Sub.nil _ | refine Sub.cons (by repeat (first | exact List.Mem.head _ | apply List.Mem.tail)) ?_))))
      · refine call_fn (made_of n false (nv a / nv b) (iv true a / iv t b) (by rw [k0.1, if_neg (fun h => bne_iff_ne.1 h hc)]; rfl)) (Seals.refl _ _) (by repeat (first | exact Sub.nil _ | refine Sub.cons (by repeat (first | exact List.Mem.head _ | apply List.Mem.tail)) ?_)) ?_
        rintro r1 _ _ ⟨rfl, rfl⟩
        refine call_fn (made_of d false (nv a % nv b) (iv true a % iv t b) k0.2) (Seals.refl _ _) (by repeat (first | exact Sub.nil _ | refine Sub.cons (by repeat (first | exact List.Mem.head _ | apply List.Mem.tail)) ?_)) ?_
        rintro r2 _ _ ⟨rfl, rfl⟩
        refine store_box (d := zd (iv true a / iv t b)) 1 rfl ho rfl (by kernel_rfl) ?_ ?_; exact Reads.fact (by repeat (first | exact List.Mem.head _ | apply List.Mem.tail))
        refine store_box (d := zd (iv true a % iv t b)) 0 rfl ho' rfl (by kernel_rfl) ?_ ?_; exact Reads.fact (by repeat (first | exact List.Mem.head _ | apply List.Mem.tail))
        refine load_box (d := zd (iv true a / iv t b)) 1 rfl ho rfl (load_I _ _) fun r => ?_
        refine load_box (d := zd (iv true a % iv t b)) 0 rfl ho' rfl (load_I _ _) fun r' => ?_
        refine fin ⟨rfl, r, r', rfl, rfl⟩ (Seals.trans (Seals.trans (Seals.trans (Seals.trans (Seals.drop 0 _ _) (Seals.drop 0 _ _)) (Seals.drop 0 _ _)) (Seals.drop 0 _ _)) (Seals.sub (by repeat (first | exact Sub.nil _ | refine Sub.cons (by repeat (first | exact List.Mem.head _ | apply List.Mem.tail)) ?_))))
end Go.Proofs.Ytfkeohlpcjpkbaa

namespace Go.Proofs.Ytfkeohlpcjpkbaa
open Go.RowKit
theorem rMake_meets (v : Value) (s : Bool) (a : List Nat) (ha : Lim a) (la : a.length ≤ 1099511627776) :
    Meets Try.prog 58 [.bool s, v] [(v, U a)] (fun r os fs => os = [] ∧ fs = [(r, zd (iv s a))]) := by
  refine meets_of_vc Try.func58 (by kernel_rfl) rfl (by kernel_rfl) (Nat.le_of_ble_eq_true rfl) ?_
  refine alloc_rule (d := I false []) fun o ho => ?_
  refine call_fn (rNorm_meets v a ha (by omega)) (Seals.refl _ _) (by repeat (first | exact Sub.nil _ | refine Sub.cons (by repeat (first | exact List.Mem.head _ | apply List.Mem.tail)) ?_)) ?_
  rintro w _ _ ⟨rfl, rfl⟩
  have e : decide (0 < (lims (nv a)).length) = decide (0 < nv a) := decide_eq_decide.2 ⟨fun h => Nat.pos_of_ne_zero fun e => by rw [e, lims_zero] at h; exact absurd h (by decide), fun h => List.length_pos_iff.2 fun e => by have := lims_eq_nil.1 e; omega⟩
  have hz := zd_of s (nv a)
  rw [← e] at hz
  change _ = zd (iv s a) at hz
  cases s with
  | false =>
    refine build2 (Knw.one rfl) (Knw.fact (by repeat (first | exact List.Mem.head _ | apply List.Mem.tail))) rfl rfl fun u => ?_
    rw [← hz]
    refine store_box (d := I false (lims (nv a))) 0 rfl ho rfl (by kernel_rfl) ?_ ?_; exact Reads.fact (by repeat (first | exact List.Mem.head _ | apply List.Mem.tail))
    refine load_box (d := I false (lims (nv a))) 0 rfl ho rfl (load_I _ _) fun r => ?_
    exact fin ⟨rfl, rfl⟩ (Seals.trans (Seals.drop 0 _ _) (Seals.sub (by repeat (first | exact Sub.nil _ | refine Sub.cons (by repeat (first | exact List.Mem.head _ | apply List.Mem.tail)) ?_))))
  | true =>
    refine len_fact (by repeat (first | exact List.Mem.head _ | apply List.Mem.tail)) fun _ => ?_
    refine cmp_split _ rfl (fun hc => ?_) (fun hc => ?_)
    · refine build2 (Knw.one rfl) (Knw.fact (by repeat (first | exact List.Mem.head _ | apply List.Mem.tail))) rfl rfl fun u => ?_
      rw [show (true && decide (0 < (lims (nv a)).length)) = true from decide_eq_true (by omega)] at hz
      rw [← hz]
      refine store_box (d := I true (lims (nv a))) 0 rfl ho rfl (by kernel_rfl) ?_ ?_; exact Reads.fact (by repeat (first | exact List.Mem.head _ | apply List.Mem.tail))
      refine load_box (d := I true (lims (nv a))) 0 rfl ho rfl (load_I _ _) fun r => ?_
      exact fin ⟨rfl, rfl⟩ (Seals.trans (Seals.drop 0 _ _) (Seals.sub (by repeat (first | exact Sub.nil _ | refine Sub.cons (by repeat (first | exact List.Mem.head _ | apply List.Mem.tail)) ?_))))
    · refine build2 (Knw.one rfl) (Knw.fact (by repeat (first | exact List.Mem.head _ | apply List.Mem.tail))) rfl rfl fun u => ?_
      rw [show (true && decide (0 < (lims (nv a)).length)) = false from decide_eq_false (by omega)] at hz
      rw [← hz]
      refine store_box (d := I false (lims (nv a))) 0 rfl ho rfl (by kernel_rfl) ?_ ?_; exact Reads.fact (by repeat (first | exact List.Mem.head _ | apply List.Mem.tail))
      refine load_box (d := I false (lims (nv a))) 0 rfl ho rfl (load_I _ _) fun r => ?_
      exact fin ⟨rfl, rfl⟩ (Seals.trans (Seals.drop 0 _ _) (Seals.sub (by repeat (first | exact Sub.nil _ | refine Sub.cons (by repeat (first | exact List.Mem.head _ | apply List.Mem.tail)) ?_))))
theorem rMake_of (v : Value) (s : Bool) (n : Nat) (x : Int) (ll : (lims n).length ≤ 1099511627776) (e : x = if s then -(n : Int) else (n : Int)) :
    Meets Try.prog 58 [.bool s, v] [(v, U (lims n))] (fun r os fs => os = [] ∧ fs = [(r, zd x)]) := by
  have := rMake_meets v s (lims n) (Lim_lims _) ll
  unfold iv at this
  rwa [nv_lims, ← e] at this
theorem rZNorm_meets (v : Value) (s : Bool) (a : List Nat) (ha : Lim a) (la : a.length ≤ 1099511627776) :
    Meets Try.prog 57 [v] [(v, I s a)] (fun r os fs => os = [] ∧ fs = [(r, zd (iv s a))]) := by
  refine meets_of_vc Try.func57 (by kernel_rfl) rfl (by kernel_rfl) (Nat.le_of_ble_eq_true rfl) ?_
  refine box_rule (Reads.fact (d := I s a) (by repeat (first | exact List.Mem.head _ | apply List.Mem.tail))) fun p hp => ?_
  refine alloc_rule (d := I false []) fun o ho => ?_
  refine field_box 1 rfl hp ?_
  refine load_box_field_one 1 rfl (Part.left (Part.refl _)) ?_
  refine field_box 1 rfl hp ?_
  refine load_box_field 1 rfl (Part.right (Part.refl _)) (load_L _) fun u => ?_
  refine call_fn (rMake_meets u s a ha la) (Seals.refl _ _) (by repeat (first | exact Sub.nil _ | refine Sub.cons (by repeat (first | exact List.Mem.head _ | apply List.Mem.tail)) ?_)) ?_
  rintro w _ _ ⟨rfl, rfl⟩
  refine store_box (d := zd (iv s a)) 0 rfl ho rfl (by kernel_rfl) ?_ ?_; exact Reads.fact (by repeat (first | exact List.Mem.head _ | apply List.Mem.tail))
  refine load_box (d := zd (iv s a)) 0 rfl ho rfl (load_I _ _) fun r => ?_
  exact fin ⟨rfl, rfl⟩ (Seals.trans (Seals.trans (Seals.drop 0 _ _) (Seals.drop 0 _ _)) (Seals.sub (by repeat (first | exact Sub.nil _ | refine Sub.cons (by repeat (first | exact List.Mem.head _ | apply List.Mem.tail)) ?_))))
theorem rSign_meets (v : Value) (s : Bool) (a : List Nat) (ha : Lim a) (la : a.length ≤ 1099511627776) :
    Meets Try.prog 32 [v] [(v, I s a)] (fun r os fs => os = [] ∧ fs = [] ∧ r = .int .i64 (iv s a).sign) := by
  refine meets_of_vc Try.func32 (by kernel_rfl) rfl (by kernel_rfl) (Nat.le_of_ble_eq_true rfl) ?_
  refine box_rule (Reads.fact (d := I s a) (by repeat (first | exact List.Mem.head _ | apply List.Mem.tail))) fun p hp => ?_
  refine load_box (d := I s a) 0 rfl hp rfl (load_I _ _) fun x => ?_
  refine call_fn (rZNorm_meets x s a ha la) (Seals.refl _ _) (by repeat (first | exact Sub.nil _ | refine Sub.cons (by repeat (first | exact List.Mem.head _ | apply List.Mem.tail)) ?_)) ?_
  rintro y _ _ ⟨rfl, rfl⟩
  refine store_box (d := zd (iv s a)) 0 rfl hp rfl (by kernel_rfl) ?_ ?_; exact Reads.fact (by repeat (first | exact List.Mem.head _ | apply List.Mem.tail))
  generalize iv s a = x
  refine field_box 0 rfl hp ?_
  refine load_box_field (d := U (lims x.natAbs)) 0 rfl (Part.right (Part.refl _)) (load_L _) fun u => ?_
  refine len_fact (by repeat (first | exact List.Mem.head _ | apply List.Mem.tail)) fun _ => ?_
  have hl : (lims x.natAbs).length = 0 ↔ x = 0 := ⟨fun h => by have := lims_eq_nil.1 (List.eq_nil_of_length_eq_zero h); omega, fun h => by subst h; exact bit_nil⟩
  refine cmp_split _ rfl (fun hc => ?_) (fun hc => ?_)
  · have h0 : x = 0 := hl.1 (by omega)
    refine fin ⟨rfl, rfl, ?_⟩ (Seals.trans (Seals.drop 0 _ _) (Seals.nil _ _))
    rw [h0]; rfl
  · have h0 : x ≠ 0 := fun e => hc (by rw [hl.2 e]; rfl)
    refine field_box 0 rfl hp ?_
    refine load_box_field_one (u := .bool (decide (x < 0))) 0 rfl (Part.left (Part.refl _)) ?_
    by_cases hx : x < 0
    · rw [decide_eq_true hx]
      refine fin ⟨rfl, rfl, ?_⟩ (Seals.trans (Seals.drop 0 _ _) (Seals.nil _ _))
      rw [Int.sign_eq_neg_one_of_neg hx]; rfl
    · rw [decide_eq_false hx]
      refine fin ⟨rfl, rfl, ?_⟩ (Seals.trans (Seals.drop 0 _ _) (Seals.nil _ _))
      rw [Int.sign_eq_one_of_pos (by omega)]; rfl
theorem rOf_meets (x : Int) (h1 : -9223372036854775808 ≤ x) (h2 : x < 9223372036854775808) :
    Meets Try.prog 30 [.int .i64 x] [] (fun r os fs => os = [] ∧ fs = [(r, zd x)]) := by
  refine meets_of_vc Try.func30 (by kernel_rfl) rfl (by kernel_rfl) (Nat.le_of_ble_eq_true rfl) ?_
  refine alloc_rule (d := I false []) fun o ho => ?_
  have hv : nv [x.natAbs] = x.natAbs := by simp [nv]
  refine cmp_split _ rfl (fun hc => ?_) (fun hc => ?_)
  · refine conv_int ⟨_, Try.underlying2⟩ Try.underlying74 ((x.natAbs : Nat) : Int) (by rw [wrap_u64]; omega) ?_
    refine lit_U x.natAbs rfl fun u => ?_
    refine call_fn (rMake_meets u false [x.natAbs] (Lim.cons (by omega) Lim.nil) (by simp)) (Seals.refl _ _) (by repeat (first | exact Sub.nil _ | refine Sub.cons (by repeat (first | exact List.Mem.head _ | apply List.Mem.tail)) ?_)) ?_
    rintro r _ _ ⟨rfl, rfl⟩
    rw [show iv false [x.natAbs] = x from by unfold iv; rw [hv]; simp only [Bool.false_eq_true, if_false]; omega]
    refine store_box (d := zd x) 0 rfl ho rfl (by kernel_rfl) ?_ ?_; exact Reads.fact (by repeat (first | exact List.Mem.head _ | apply List.Mem.tail))
    refine load_box (d := zd x) 0 rfl ho rfl (load_I _ _) fun r => ?_
    exact fin ⟨rfl, rfl⟩ (Seals.trans (Seals.drop 0 _ _) (Seals.sub (by repeat (first | exact Sub.nil _ | refine Sub.cons (by repeat (first | exact List.Mem.head _ | apply List.Mem.tail)) ?_))))
  · refine ar rfl (by first | exact ⟨by omega, by omega⟩ | (simp only [inK]; omega)) ?_
    refine un_neg (m := -(x + 1)) (by rw [show (0 - (x + 1)) = -(x + 1) from by omega]; exact wrap_in ⟨by omega, by omega⟩) ?_
    refine conv_int ⟨_, Try.underlying2⟩ Try.underlying74 (-(x + 1)) (by rw [wrap_u64]; omega) ?_
    refine ar_wrap rfl ((x.natAbs : Nat) : Int) (by rw [wrap_u64]; omega) ?_
    refine lit_U x.natAbs rfl fun u => ?_
    refine call_fn (rMake_meets u true [x.natAbs] (Lim.cons (by omega) Lim.nil) (by simp)) (Seals.refl _ _) (by repeat (first | exact Sub.nil _ | refine Sub.cons (by repeat (first | exact List.Mem.head _ | apply List.Mem.tail)) ?_)) ?_
    rintro r _ _ ⟨rfl, rfl⟩
    rw [show iv true [x.natAbs] = x from by unfold iv; rw [hv]; simp only [if_true]; omega]
    refine store_box (d := zd x) 0 rfl ho rfl (by kernel_rfl) ?_ ?_; exact Reads.fact (by repeat (first | exact List.Mem.head _ | apply List.Mem.tail))
    refine load_box (d := zd x) 0 rfl ho rfl (load_I _ _) fun r => ?_
    exact fin ⟨rfl, rfl⟩ (Seals.trans (Seals.drop 0 _ _) (Seals.sub (by repeat (first | exact Sub.nil _ | refine Sub.cons (by repeat (first | exact List.Mem.head _ | apply List.Mem.tail)) ?_))))
theorem rZMul_meets (v w : Value) (s t : Bool) (a b : List Nat) (ha : Lim a) (hb : Lim b) (la : a.length ≤ 137438953472) (lb : b.length ≤ 137438953472) :
    Meets Try.prog 24 [v, w] [(v, I s a), (w, I t b)] (fun r os fs => os = [] ∧ fs = [(r, zd (iv s a * iv t b))]) := by
  have hml := lims_length_le (k := a.length + b.length) (n := nv a * nv b) (by rw [Nat.pow_add]; exact Nat.mul_lt_mul'' (nv_lt ha) (nv_lt hb))
  refine meets_of_vc Try.func24 (by kernel_rfl) rfl (by kernel_rfl) (Nat.le_of_ble_eq_true rfl) ?_
  refine box_rule (Reads.fact (d := I s a) (by repeat (first | exact List.Mem.head _ | apply List.Mem.tail))) fun p hp => ?_
  refine box_rule (Reads.fact (d := I t b) (by repeat (first | exact List.Mem.head _ | apply List.Mem.tail))) fun q hq => ?_
  refine alloc_rule (d := I false []) fun o ho => ?_
  refine draw_rule [0, 1, 2, 3, 4, 5, 6, 7, 8, 9, 10, 11] [0, 1, 2, 3, 4, 5, 6, 7, 8, 9, 10, 11] (by kernel_rfl) (by kernel_rfl) ?_
  refine field_box 2 rfl hp ?_
  refine load_box_field_one 2 rfl (Part.left (Part.refl _)) ?_
  refine field_box 1 rfl hq ?_
  refine load_box_field_one 1 rfl (Part.left (Part.refl _)) ?_
  refine bne_split (fun hc => ?_) (fun hc => ?_)
  ·
    refine field_box 2 rfl hp ?_
    refine load_box_field 2 rfl (Part.right (Part.refl _)) (load_L _) fun x => ?_
    refine field_box 1 rfl hq ?_
    refine load_box_field 1 rfl (Part.right (Part.refl _)) (load_L _) fun y => ?_
    refine call_fn (rMul_meets x y a b ha hb (by omega) (by omega)) (Seals.refl _ _) (by repeat (first | exact Sub.nil _ | refine Sub.cons (by repeat (first | exact List.Mem.head _ | apply List.Mem.tail)) ?_)) ?_
    rintro z _ _ ⟨rfl, rfl⟩
    have e : iv s a * iv t b = -((nv a * nv b : Nat) : Int) := by cases s <;> cases t <;> simp_all [iv, Int.mul_neg, Int.neg_mul]
    refine call_fn (rMake_of z true (nv a * nv b) (iv s a * iv t b) (by omega) e) (Seals.refl _ _) (by repeat (first | exact Sub.nil _ | refine Sub.cons (by repeat (first | exact List.Mem.head _ | apply List.Mem.tail)) ?_)) ?_
    rintro r _ _ ⟨rfl, rfl⟩
    refine store_box (d := zd (iv s a * iv t b)) 0 rfl ho rfl (by kernel_rfl) ?_ ?_; exact Reads.fact (by repeat (first | exact List.Mem.head _ | apply List.Mem.tail))
    refine load_box (d := zd (iv s a * iv t b)) 0 rfl ho rfl (load_I _ _) fun r => ?_
    exact fin ⟨rfl, rfl⟩ (Seals.trans (Seals.trans (Seals.trans (Seals.drop 0 _ _) (Seals.drop 0 _ _)) (Seals.drop 0 _ _)) (Seals.sub (by repeat (first | exact Sub.nil _ | refine Sub.cons (by repeat (first | exact List.Mem.head _ | apply List.Mem.tail)) ?_))))
  ·
    refine field_box 2 rfl hp ?_
    refine load_box_field 2 rfl (Part.right (Part.refl _)) (load_L _) fun x => ?_
    refine field_box 1 rfl hq ?_
    refine load_box_field 1 rfl (Part.right (Part.refl _)) (load_L _) fun y => ?_
    refine call_fn (rMul_meets x y a b ha hb (by omega) (by omega)) (Seals.refl _ _) (by repeat (first | exact Sub.nil _ | refine Sub.cons (by repeat (first | exact List.Mem.head _ | apply List.Mem.tail)) ?_)) ?_
    rintro z _ _ ⟨rfl, rfl⟩
    have e : iv s a * iv t b = ((nv a * nv b : Nat) : Int) := by cases s <;> cases t <;> simp_all [iv, Int.mul_neg, Int.neg_mul, Int.neg_mul_neg]
    refine call_fn (rMake_of z false (nv a * nv b) (iv s a * iv t b) (by omega) e) (Seals.refl _ _) (by repeat (first | exact Sub.nil _ | refine Sub.cons (by repeat (first | exact List.Mem.head _ | apply List.Mem.tail)) ?_)) ?_
    rintro r _ _ ⟨rfl, rfl⟩
    refine store_box (d := zd (iv s a * iv t b)) 0 rfl ho rfl (by kernel_rfl) ?_ ?_; exact Reads.fact (by repeat (first | exact List.Mem.head _ | apply List.Mem.tail))
    refine load_box (d := zd (iv s a * iv t b)) 0 rfl ho rfl (load_I _ _) fun r => ?_
    exact fin ⟨rfl, rfl⟩ (Seals.trans (Seals.trans (Seals.trans (Seals.drop 0 _ _) (Seals.drop 0 _ _)) (Seals.drop 0 _ _)) (Seals.sub (by repeat (first | exact Sub.nil _ | refine Sub.cons (by repeat (first | exact List.Mem.head _ | apply List.Mem.tail)) ?_))))
theorem iv_abs (s : Bool) (a : List Nat) : (iv s a).natAbs = nv a := by cases s <;> simp [iv]
theorem rZAdd_meets (v w : Value) (s t : Bool) (a b : List Nat) (ha : Lim a) (hb : Lim b) (la : a.length ≤ 137438953472) (lb : b.length ≤ 137438953472) :
    Meets Try.prog 23 [v, w] [(v, I s a), (w, I t b)] (fun r os fs => os = [] ∧ fs = [(r, zd (iv s a + iv t b))]) := by
  refine meets_of_vc Try.func23 (by kernel_rfl) rfl (by kernel_rfl) (Nat.le_of_ble_eq_true rfl) ?_
  refine box_rule (Reads.fact (d := I s a) (by repeat (first | exact List.Mem.head _ | apply List.Mem.tail))) fun p hp => ?_
  refine box_rule (Reads.fact (d := I t b) (by repeat (first | exact List.Mem.head _ | apply List.Mem.tail))) fun q hq => ?_
  refine alloc_rule (d := I false []) fun o ho => ?_
  refine load_box (d := I s a) 2 rfl hp rfl (load_I _ _) fun v1 => ?_
  refine call_fn (rZNorm_meets v1 s a ha (by omega)) (Seals.refl _ _) (by repeat (first | exact Sub.nil _ | refine Sub.cons (by repeat (first | exact List.Mem.head _ | apply List.Mem.tail)) ?_)) ?_
  rintro v2 _ _ ⟨rfl, rfl⟩
  refine store_box (d := zd (iv s a)) 2 rfl hp rfl (by kernel_rfl) ?_ ?_; exact Reads.fact (by repeat (first | exact List.Mem.head _ | apply List.Mem.tail))
  refine load_box (d := I t b) 1 rfl hq rfl (load_I _ _) fun w1 => ?_
  refine call_fn (rZNorm_meets w1 t b hb (by omega)) (Seals.refl _ _) (by repeat (first | exact Sub.nil _ | refine Sub.cons (by repeat (first | exact List.Mem.head _ | apply List.Mem.tail)) ?_)) ?_
  rintro w2 _ _ ⟨rfl, rfl⟩
  refine store_box (d := zd (iv t b)) 1 rfl hq rfl (by kernel_rfl) ?_ ?_; exact Reads.fact (by repeat (first | exact List.Mem.head _ | apply List.Mem.tail))
  have hxl : (lims (iv s a).natAbs).length ≤ a.length := by rw [iv_abs]; exact lims_length_le (nv_lt ha)
  have hyl : (lims (iv t b).natAbs).length ≤ b.length := by rw [iv_abs]; exact lims_length_le (nv_lt hb)
  have hbig : ∀ n, n ≤ nv a + nv b → (lims n).length ≤ a.length + b.length + 1 := fun n hn => lims_length_le (by
    have h1 := nv_lt ha
    have h2 := nv_lt hb
    have h3 := Nat.pow_le_pow_right (show 0 < 18446744073709551616 by decide) (show a.length ≤ a.length + b.length by omega)
    have h4 := Nat.pow_le_pow_right (show 0 < 18446744073709551616 by decide) (show b.length ≤ a.length + b.length by omega)
    rw [Nat.pow_succ]
    generalize 18446744073709551616 ^ (a.length + b.length) = Q at *
    generalize 18446744073709551616 ^ a.length = Q1 at *
    generalize 18446744073709551616 ^ b.length = Q2 at *
    omega)
  have hxa := iv_abs s a
  have hyb := iv_abs t b
  generalize iv s a = x at *
  generalize iv t b = y at *
  refine field_box 2 rfl hp ?_
  refine load_box_field_one (u := .bool (decide (x < 0))) 2 rfl (Part.left (Part.refl _)) ?_
  refine field_box 1 rfl hq ?_
  refine load_box_field_one (u := .bool (decide (y < 0))) 1 rfl (Part.left (Part.refl _)) ?_
  refine beq_split (fun hc => ?_) (fun hc => ?_)
  · refine draw_rule [0, 1, 2, 3, 4, 5, 6, 7, 8] [0, 1, 2, 3, 4, 5, 6, 7, 8] (by kernel_rfl) (by kernel_rfl) ?_
    refine field_box 2 rfl hp ?_
    refine load_box_field_one (u := .bool (decide (x < 0))) 2 rfl (Part.left (Part.refl _)) ?_
    refine field_box 2 rfl hp ?_
    refine load_box_field (d := U (lims (x).natAbs)) 2 rfl (Part.right (Part.refl _)) (load_L _) fun x1 => ?_
    refine field_box 1 rfl hq ?_
    refine load_box_field (d := U (lims (y).natAbs)) 1 rfl (Part.right (Part.refl _)) (load_L _) fun y1 => ?_
    refine call_fn (rAdd_meets x1 y1 (lims x.natAbs) (lims y.natAbs) (Lim_lims _) (Lim_lims _) (by omega) (by omega)) (Seals.refl _ _) (by repeat (first | exact Sub.nil _ | refine Sub.cons (by repeat (first | exact List.Mem.head _ | apply List.Mem.tail)) ?_)) ?_
    rintro z _ _ ⟨rfl, rfl⟩
    rw [nv_lims, nv_lims]
    have e : x + y = if decide (x < 0) then -((x.natAbs + y.natAbs : Nat) : Int) else ((x.natAbs + y.natAbs : Nat) : Int) := by
      have := decide_eq_decide.1 hc
      by_cases hx : x < 0
      · simp only [hx, decide_true, if_true]; omega
      · simp only [hx, decide_false, Bool.false_eq_true, if_false]; omega
    refine call_fn (rMake_of z (decide (x < 0)) (x.natAbs + y.natAbs) (x + y) (by have := hbig (x.natAbs + y.natAbs) (by omega); omega) e) (Seals.refl _ _) (by repeat (first | exact Sub.nil _ | refine Sub.cons (by repeat (first | exact List.Mem.head _ | apply List.Mem.tail)) ?_)) ?_
    rintro r _ _ ⟨rfl, rfl⟩
    refine store_box (d := zd (x + y)) 0 rfl ho rfl (by kernel_rfl) ?_ ?_; exact Reads.fact (by repeat (first | exact List.Mem.head _ | apply List.Mem.tail))
    refine load_box (d := zd (x + y)) 0 rfl ho rfl (load_I _ _) fun r => ?_
    exact fin ⟨rfl, rfl⟩ (Seals.trans (Seals.trans (Seals.trans (Seals.drop 0 _ _) (Seals.drop 0 _ _)) (Seals.drop 0 _ _)) (Seals.sub (by repeat (first | exact Sub.nil _ | refine Sub.cons (by repeat (first | exact List.Mem.head _ | apply List.Mem.tail)) ?_))))
  · have hc' : ¬ (x < 0 ↔ y < 0) := fun h => hc (decide_eq_decide.2 h)
    refine field_box 2 rfl hp ?_
    refine load_box_field (d := U (lims (x).natAbs)) 2 rfl (Part.right (Part.refl _)) (load_L _) fun x1 => ?_
    refine field_box 1 rfl hq ?_
    refine load_box_field (d := U (lims (y).natAbs)) 1 rfl (Part.right (Part.refl _)) (load_L _) fun y1 => ?_
    refine call_fn (rSub_meets x1 y1 (lims x.natAbs) (lims y.natAbs) (Lim_lims _) (Lim_lims _) (by omega) (by omega)) (Seals.refl _ _) (by repeat (first | exact Sub.nil _ | refine Sub.cons (by repeat (first | exact List.Mem.head _ | apply List.Mem.tail)) ?_)) ?_
    rw [nv_lims, nv_lims]
    rintro _ _ _ ⟨rfl, ⟨hlt, rfl, rfl⟩ | ⟨hle, z, rfl, rfl⟩⟩
    ·
      refine field_box 1 rfl hq ?_
      refine load_box_field (d := U (lims (y).natAbs)) 1 rfl (Part.right (Part.refl _)) (load_L _) fun y2 => ?_
      refine field_box 2 rfl hp ?_
      refine load_box_field (d := U (lims (x).natAbs)) 2 rfl (Part.right (Part.refl _)) (load_L _) fun x2 => ?_
      refine call_fn (rSub_meets y2 x2 (lims y.natAbs) (lims x.natAbs) (Lim_lims _) (Lim_lims _) (by omega) (by omega)) (Seals.refl _ _) (by repeat (first | exact Sub.nil _ | refine Sub.cons (by repeat (first | exact List.Mem.head _ | apply List.Mem.tail)) ?_)) ?_
      rw [nv_lims, nv_lims]
      rintro _ _ _ ⟨rfl, ⟨hlt', rfl, rfl⟩ | ⟨hle', z, rfl, rfl⟩⟩
      · omega
      refine field_box 1 rfl hq ?_
      refine load_box_field_one (u := .bool (decide (y < 0))) 1 rfl (Part.left (Part.refl _)) ?_
      have e : x + y = if decide (y < 0) then -((y.natAbs - x.natAbs : Nat) : Int) else ((y.natAbs - x.natAbs : Nat) : Int) := by
        by_cases hy : y < 0
        · simp only [hy, decide_true, if_true]; omega
        · simp only [hy, decide_false, Bool.false_eq_true, if_false]; omega
      refine call_fn (rMake_of z (decide (y < 0)) (y.natAbs - x.natAbs) (x + y) (by have := hbig (y.natAbs - x.natAbs) (by omega); omega) e) (Seals.refl _ _) (by repeat (first | exact Sub.nil _ | refine Sub.cons (by repeat (first | exact List.Mem.head _ | apply List.Mem.tail)) ?_)) ?_
      rintro r _ _ ⟨rfl, rfl⟩
      refine store_box (d := zd (x + y)) 0 rfl ho rfl (by kernel_rfl) ?_ ?_; exact Reads.fact (by repeat (first | exact List.Mem.head _ | apply List.Mem.tail))
      refine load_box (d := zd (x + y)) 0 rfl ho rfl (load_I _ _) fun r => ?_
      exact fin ⟨rfl, rfl⟩ (Seals.trans (Seals.trans (Seals.trans (Seals.drop 0 _ _) (Seals.drop 0 _ _)) (Seals.drop 0 _ _)) (Seals.sub (by repeat (first | exact Sub.nil _ | refine Sub.cons (by repeat (first | exact List.Mem.head _ | apply List.Mem.tail)) ?_))))
    ·
      refine field_box 2 rfl hp ?_
      refine load_box_field_one (u := .bool (decide (x < 0))) 2 rfl (Part.left (Part.refl _)) ?_
      have e : x + y = if decide (x < 0) then -((x.natAbs - y.natAbs : Nat) : Int) else ((x.natAbs - y.natAbs : Nat) : Int) := by
        by_cases hx : x < 0
        · simp only [hx, decide_true, if_true]; omega
        · simp only [hx, decide_false, Bool.false_eq_true, if_false]; omega
      refine call_fn (rMake_of z (decide (x < 0)) (x.natAbs - y.natAbs) (x + y) (by have := hbig (x.natAbs - y.natAbs) (by omega); omega) e) (Seals.refl _ _) (by repeat (first | exact Sub.nil _ | refine Sub.cons (by repeat (first | exact List.Mem.head _ | apply List.Mem.tail)) ?_)) ?_
      rintro r _ _ ⟨rfl, rfl⟩
      refine store_box (d := zd (x + y)) 0 rfl ho rfl (by kernel_rfl) ?_ ?_; exact Reads.fact (by repeat (first | exact List.Mem.head _ | apply List.Mem.tail))
      refine load_box (d := zd (x + y)) 0 rfl ho rfl (load_I _ _) fun r => ?_
      exact fin ⟨rfl, rfl⟩ (Seals.trans (Seals.trans (Seals.trans (Seals.drop 0 _ _) (Seals.drop 0 _ _)) (Seals.drop 0 _ _)) (Seals.sub (by repeat (first | exact Sub.nil _ | refine Sub.cons (by repeat (first | exact List.Mem.head _ | apply List.Mem.tail)) ?_))))
theorem iv_zd (x : Int) : iv (decide (x < 0)) (lims x.natAbs) = x := by
  unfold iv
  rw [nv_lims]
  by_cases hx : x < 0
  · simp only [hx, decide_true, if_true]; omega
  · simp only [hx, decide_false, Bool.false_eq_true, if_false]; omega
end Go.Proofs.Ytfkeohlpcjpkbaa

namespace Go.Proofs.Ytfkeohlpcjpkbaa
open Go.RowKit
theorem TEl.pos {P : Program} {e : TypeId} {size bytes : Nat} (he : TEl P e size bytes) : 0 < size := by
  obtain ⟨ti, z, i1, rfl, i3, i4, i5, i6⟩ := he.info
  exact i6
theorem Dat.cells_pos : ∀ d : Dat, 0 < d.cells
  | .one _ => Nat.zero_lt_one
  | .sl .. => Nat.zero_lt_one
  | .ptr _ => Nat.zero_lt_one
  | .mp .. => Nat.zero_lt_one
  | .cat a b => Nat.add_pos_left (Dat.cells_pos a) _
/-- A list's data: its elements' data, one behind the other. -/
def LD {α : Type} (size : Nat) (f : α → Dat) (z : α) (l : List α) : Dat := .sl size l.length fun i => f (l.getD i z)
def ownL {α : Type} (size : Nat) (f : α → Dat) (z : α) (v : Value) (l : List α) : Own := own1 v size l.length fun i => f (l.getD i z)
section
variable {α : Type} {size : Nat} {f : α → Dat} {z : α} {P : Program} {t e ty : TypeId} {bytes : Nat} {os : List Own} {fs : List Fact} {K : Cont}
theorem empty_L [ht : TSl P t e size] [he : TEl P e size bytes] (f : α → Dat) (z : α) (hsz : size ≤ 16) (k : ∀ v, isSl v → K v (ownL size f z v [] :: os) fs) : BuildSliceK P t 0 [] os fs K := by
  have h1 := buildSlice_own (P := P) (t := t) (os := os) (fs := fs) (K := fun u os' fs' => ∃ os'' fs'', Seals os' fs' os'' fs'' ∧ K u os'' fs'') (n := 0) [] [] rfl rfl (by decide) hsz trivial
  refine ⟨Grw.sealed (h1 fun v hv => ⟨_, _, ?_, k v hv⟩).out⟩
  exact Seals.own_cong (hsz := .inl he.pos) (os := own1 v size 0 (fun i => ([] : List Dat).getD i (.one undef)) :: os) (fs := fs) 0 (n' := ([] : List α).length) (fun i => f (([] : List α).getD i z)) rfl rfl fun i hi => absurd hi (Nat.not_lt_zero _)
theorem Seals.knw_cong {v : Value} {n n' : Nat} {g g' : Nat → Dat} (hn : n = n') (h : ∀ i, i < n → g i = g' i) : Seals os ((v, .sl size n g) :: fs) os ((v, .sl size n' g') :: fs) := by
  subst hn
  exact Seals.trans (Seals.add (Knw.sl_cong (Knw.fact (List.Mem.head _)) h)) (Seals.sub fun F hF => by
    rcases List.mem_cons.1 hF with rfl | hF
    · exact .head _
    · exact .tail _ (.tail _ hF))
theorem lit_L [ht : TSl P t e size] [he : TEl P e size bytes] {x : Value} (f : α → Dat) (z : α) (a : α) (hsz : size ≤ 16) (hx : Reads os fs x (f a)) (hc : (f a).cells = size) (k : ∀ v, K v os ((v, LD size f z [a]) :: fs)) : BuildSliceK P t 1 [(0, x)] os fs K := by
  have h1 := buildSlice_fact (P := P) (t := t) (os := os) (fs := fs) (K := fun u os' fs' => ∃ os'' fs'', Seals os' fs' os'' fs'' ∧ K u os'' fs'') (n := 1) [x] [f a] rfl rfl (by decide) hsz ⟨hx, hc, trivial⟩
  refine ⟨Grw.sealed (h1 fun v => ⟨_, _, ?_, k v⟩).out⟩
  exact Seals.knw_cong rfl fun i hi => by
    have : i = 0 := by omega
    subst this; rfl
theorem append_L [ht : TSl P t e size] [he : TEl P e size bytes] {a b : Value} {l m : List α} (pos : Nat) (h : nthOwn os pos = some (ownL size f z a l)) (hs : isSl a) (hb : Knw os fs b (LD size f z m)) (hm : l.length + m.length ≤ 9223372036854775807) (hby : (l.length + m.length) * bytes ≤ 140737488355328)
    (k : ∀ v, isSl v → K v (setOwn os pos (ownL size f z v (l ++ m))) fs) : AppendK P [t, t] ty a b os fs K := by
  have h1 := append_rule (P := P) (t := t) (ty := ty) (K := fun u os' fs' => ∃ os'' fs'', Seals os' fs' os'' fs'' ∧ K u os'' fs'') pos h hs hb hm hby
  refine ⟨Dyn.sealed (h1 fun v hv => ⟨_, _, ?_, k v hv⟩).out⟩
  have h2 := Seals.own_cong (hsz := .inl he.pos) (os := setOwn os pos (own1 v size (l.length + m.length) (fun i => if i < l.length then f (l.getD i z) else f (m.getD (i - l.length) z)))) (fs := fs) pos (n' := (l ++ m).length) (fun i => f ((l ++ m).getD i z)) (nth_set h) (by simp) fun i hi => by
    simp only [List.getD_eq_getElem?_getD]
    by_cases hil : i < l.length
    · rw [if_pos hil, List.getElem?_append_left hil]
    · rw [if_neg hil, List.getElem?_append_right (by omega)]
  rw [set_set] at h2
  exact h2
theorem Seals.L {v : Value} {l : List α} (pos : Nat) (h : nthOwn os pos = some (ownL size f z v l)) (hs : isSl v) : Seals os fs (dropOwn os pos) ((v, LD size f z l) :: fs) :=
  Seals.slice pos (fun i => f (l.getD i z)) h hs fun _ _ => rfl
end
abbrev Row := List (Bool × List Nat)
def z0 : Bool × List Nat := (false, [])
def J (x : Bool × List Nat) : Dat := I x.1 x.2
def jv (x : Bool × List Nat) : Int := iv x.1 x.2
/-- A row's data; rows' data. -/
def V (r : Row) : Dat := LD 2 J z0 r
def W (m : List Row) : Dat := LD 1 V [] m
def vv (r : Row) : List Int := r.map jv
def ww (m : List Row) : List (List Int) := m.map vv
def cn (x : Int) : Bool × List Nat := (decide (x < 0), lims x.natAbs)
def vd (l : List Int) : Dat := V (l.map cn)
def wd (m : List (List Int)) : Dat := W (m.map (·.map cn))
theorem jv_cn (x : Int) : jv (cn x) = x := iv_zd x
theorem vv_cn (l : List Int) : vv (l.map cn) = l := by
  unfold vv; rw [List.map_map]
  conv => rhs; rw [← List.map_id l]
  exact List.map_congr_left fun x _ => jv_cn x
theorem ww_cn (m : List (List Int)) : ww (m.map (·.map cn)) = m := by
  unfold ww; rw [List.map_map]
  conv => rhs; rw [← List.map_id m]
  exact List.map_congr_left fun x _ => vv_cn x
/-- All limbs are limbs, and there are at most k of them in each number. -/
def Fit (k : Nat) (r : Row) : Prop := ∀ x, x ∈ r → Lim x.2 ∧ x.2.length ≤ k
def Fits (k : Nat) (m : List Row) : Prop := ∀ r, r ∈ m → Fit k r
theorem Fit.get {k : Nat} {r : Row} (h : Fit k r) (i : Nat) : Lim (r.getD i z0).2 ∧ (r.getD i z0).2.length ≤ k := by
  rw [List.getD_eq_getElem?_getD]
  cases hi : r[i]? with
  | none => exact ⟨Lim.nil, Nat.zero_le _⟩
  | some x => exact h x (List.mem_of_getElem? hi)
theorem Fits.get {k : Nat} {m : List Row} (h : Fits k m) (i : Nat) : Fit k (m.getD i []) := by
  rw [List.getD_eq_getElem?_getD]
  cases hi : m[i]? with
  | none => exact fun _ h => by cases h
  | some x => exact h x (List.mem_of_getElem? hi)
theorem load_V (r : Row) : LoadAs Try.prog 27 (V r) := (inferInstance : TOne Try.prog 27)
theorem load_P (r : Row) : LoadAs Try.prog 28 (V r) := (inferInstance : TOne Try.prog 28)
theorem load_J (x : Bool × List Nat) : LoadAs Try.prog 39 (J x) := load_I _ _
end Go.Proofs.Ytfkeohlpcjpkbaa

namespace Go.Proofs.Ytfkeohlpcjpkbaa
open Go.RowKit
theorem AppendK.post {P : Program} {ts : List TypeId} {ty : TypeId} {a b : Value} {os : List Own} {fs : List Fact} {K : Cont} (h : AppendK P ts ty a b os fs fun v os' fs' => ∃ os'' fs'', Seals os' fs' os'' fs'' ∧ K v os'' fs'') : AppendK P ts ty a b os fs K :=
  ⟨Dyn.sealed h.out⟩
theorem StoreK.post {P : Program} {t : TypeId} {a b : Value} {os : List Own} {fs : List Fact} {K : Cont} (h : StoreK P t a b os fs fun v os' fs' => ∃ os'' fs'', Seals os' fs' os'' fs'' ∧ K v os'' fs'') : StoreK P t a b os fs K :=
  ⟨Dyn.sealed h.out⟩
theorem list_eq_of_getD {l m : List Nat} (hl : l.length = m.length) (h : ∀ i, i < l.length → l.getD i 0 = m.getD i 0) : l = m := by
  refine List.ext_getElem hl fun n h1 h2 => ?_
  have := h n h1
  simpa [List.getD_eq_getElem?_getD, h1, h2] using this
theorem exact_meets (v w : Value) (x y : Bool × List Nat) :
    Meets Try.prog 21 [v, w] [(v, J x), (w, J y)] (fun r os fs => os = [] ∧ fs = [] ∧ r = .bool (decide (x = y))) := by
  refine meets_of_vc Try.func21 (by kernel_rfl) rfl (by kernel_rfl) (Nat.le_of_ble_eq_true rfl) ?_
  refine box_rule (Reads.fact (d := J x) (by repeat (first | exact List.Mem.head _ | apply List.Mem.tail))) fun p hp => ?_
  refine box_rule (Reads.fact (d := J y) (by repeat (first | exact List.Mem.head _ | apply List.Mem.tail))) fun q hq => ?_
  refine field_box 1 rfl hp ?_
  refine load_box_field_one 1 rfl (Part.left (Part.refl _)) ?_
  refine field_box 0 rfl hq ?_
  refine load_box_field_one 0 rfl (Part.left (Part.refl _)) ?_
  refine bne_split (fun hc => ?_) (fun hc => ?_)
  · refine fin ⟨rfl, rfl, ?_⟩ (Seals.trans (Seals.trans (Seals.drop 0 _ _) (Seals.drop 0 _ _)) (Seals.nil _ _))
    rw [decide_eq_false (fun e => hc (by rw [e]))]; rfl
  ·
    refine field_box 1 rfl hp ?_
    refine load_box_field 1 rfl (Part.right (Part.refl _)) (load_L _) fun u => ?_
    refine len_fact (by repeat (first | exact List.Mem.head _ | apply List.Mem.tail)) fun _ => ?_
    refine field_box 0 rfl hq ?_
    refine load_box_field 0 rfl (Part.right (Part.refl _)) (load_L _) fun u' => ?_
    refine len_fact (by repeat (first | exact List.Mem.head _ | apply List.Mem.tail)) fun _ => ?_
    refine cmp_split _ rfl (fun hl => ?_) (fun hl => ?_)
    · refine fin ⟨rfl, rfl, ?_⟩ (Seals.trans (Seals.trans (Seals.drop 0 _ _) (Seals.drop 0 _ _)) (Seals.nil _ _))
      rw [decide_eq_false (fun e => hl (by rw [e]))]; rfl
    · have hl' : x.2.length = y.2.length := by omega
      refine loop_rule (X := Nat) (fun i => ([(2, p), (3, q), (5, .int .i64 (i : Nat))], [own1 q 2 1 (fun _ => J y), own1 p 2 1 (fun _ => J x)], []))
        (fun i => i ≤ x.2.length ∧ ∀ k, k < i → x.2.getD k 0 = y.2.getD k 0) (fun i => x.2.length - i) rfl ?_ ?_
      · exact again 0 ⟨Nat.zero_le _, fun k hk => absurd hk (Nat.not_lt_zero _)⟩ trivial (by repeat (first | exact trivial | refine ⟨rfl, ?_⟩ | refine ⟨i64_eq (by first | omega | (simp only; omega)), ?_⟩ | refine ⟨u64_eq (by first | omega | (simp only; omega)), ?_⟩)) (Seals.nil _ _)
      · rintro i ⟨h1, h2⟩
        refine field_box 1 rfl hp ?_
        refine load_box_field 1 rfl (Part.right (Part.refl _)) (load_L _) fun u => ?_
        refine len_fact (by repeat (first | exact List.Mem.head _ | apply List.Mem.tail)) fun _ => ?_
        refine cmp_split _ rfl (fun hi => ?_) (fun hi => ?_)
        · refine draw_rule [0, 1, 2, 3, 4, 5, 6, 7, 8, 9, 10] [0, 1, 2, 3, 4, 5, 6, 7, 8, 9, 10] (by kernel_rfl) (by kernel_rfl) ?_
          refine field_box 1 rfl hp ?_
          refine load_box_field 1 rfl (Part.right (Part.refl _)) (load_L _) fun u1 => ?_
          refine index_fact (by repeat (first | exact List.Mem.head _ | apply List.Mem.tail)) i rfl (by omega) fun a1 => ?_
          refine load_one (by repeat (first | exact List.Mem.head _ | apply List.Mem.tail)) ?_
          refine field_box 0 rfl hq ?_
          refine load_box_field 0 rfl (Part.right (Part.refl _)) (load_L _) fun u2 => ?_
          refine index_fact (by repeat (first | exact List.Mem.head _ | apply List.Mem.tail)) i rfl (by omega) fun a2 => ?_
          refine load_one (by repeat (first | exact List.Mem.head _ | apply List.Mem.tail)) ?_
          refine cmp_split _ rfl (fun he => ?_) (fun he => ?_)
          · refine fin ⟨rfl, rfl, ?_⟩ (Seals.trans (Seals.trans (Seals.drop 0 _ _) (Seals.drop 0 _ _)) (Seals.nil _ _))
            rw [decide_eq_false (fun e => he (by rw [e]))]; rfl
          · refine ar rfl (by first | exact ⟨by omega, by omega⟩ | (simp only [inK]; omega)) ?_
            refine again (i + 1) ⟨by omega, fun k hk => ?_⟩ (by simp only; omega) (by repeat (first | exact trivial | refine ⟨rfl, ?_⟩ | refine ⟨i64_eq (by first | omega | (simp only; omega)), ?_⟩ | refine ⟨u64_eq (by first | omega | (simp only; omega)), ?_⟩)) (Seals.nil _ _)
            by_cases hki : k = i
            · subst hki; omega
            · exact h2 k (by omega)
        · refine fin ⟨rfl, rfl, ?_⟩ (Seals.trans (Seals.trans (Seals.drop 0 _ _) (Seals.drop 0 _ _)) (Seals.nil _ _))
          rw [decide_eq_true (Prod.ext_iff.2 ⟨hc, list_eq_of_getD hl' fun k hk => h2 k (by omega)⟩)]; rfl
theorem row_eq_of_getD {α : Type} {l m : List α} (z : α) (hl : l.length = m.length) (h : ∀ i, i < l.length → l.getD i z = m.getD i z) : l = m := by
  refine List.ext_getElem hl fun n h1 h2 => ?_
  have := h n h1
  simpa [List.getD_eq_getElem?_getD, h1, h2] using this
theorem exactAll_meets (v w : Value) (a b : Row) :
    Meets Try.prog 14 [v, w] [(v, V a), (w, V b)] (fun r os fs => os = [] ∧ fs = [] ∧ r = .bool (decide (a = b))) := by
  refine meets_of_vc Try.func14 (by kernel_rfl) rfl (by kernel_rfl) (Nat.le_of_ble_eq_true rfl) ?_
  refine len_fact (by repeat (first | exact List.Mem.head _ | apply List.Mem.tail)) fun _ => ?_
  refine len_fact (by repeat (first | exact List.Mem.head _ | apply List.Mem.tail)) fun _ => ?_
  refine cmp_split _ rfl (fun hl => ?_) (fun hl => ?_)
  · refine fin ⟨rfl, rfl, ?_⟩ (Seals.nil _ _)
    rw [decide_eq_false (fun e => hl (by rw [e]))]; rfl
  · have hl' : a.length = b.length := by omega
    refine loop_rule (X := Nat) (fun i => ([(0, v), (1, w), (5, .int .i64 (i : Nat))], [], [(v, V a), (w, V b)]))
      (fun i => i ≤ a.length ∧ ∀ k, k < i → a.getD k z0 = b.getD k z0) (fun i => a.length - i) rfl ?_ ?_
    · exact again 0 ⟨Nat.zero_le _, fun k hk => absurd hk (Nat.not_lt_zero _)⟩ trivial (by repeat (first | exact trivial | refine ⟨rfl, ?_⟩ | refine ⟨i64_eq (by first | omega | (simp only; omega)), ?_⟩ | refine ⟨u64_eq (by first | omega | (simp only; omega)), ?_⟩)) (Seals.sub (by repeat (first | exact Sub.nil _ | refine Sub.cons (by repeat (first | exact List.Mem.head _ | apply List.Mem.tail)) ?_)))
    · rintro i ⟨h1, h2⟩
      refine len_fact (by repeat (first | exact List.Mem.head _ | apply List.Mem.tail)) fun _ => ?_
      refine cmp_split _ rfl (fun hi => ?_) (fun hi => ?_)
      · refine draw_rule [0, 1, 2, 3, 4, 5, 6, 7, 8, 9] [0, 1, 2, 3, 4, 5, 6, 7, 8, 9] (by kernel_rfl) (by kernel_rfl) ?_
        refine index_fact (by repeat (first | exact List.Mem.head _ | apply List.Mem.tail)) i rfl (by omega) fun a1 => ?_
        refine load_fact (d := J (a.getD i z0)) (by repeat (first | exact List.Mem.head _ | apply List.Mem.tail)) (load_J _) fun x1 => ?_
        refine index_fact (by repeat (first | exact List.Mem.head _ | apply List.Mem.tail)) i rfl (by omega) fun a2 => ?_
        refine load_fact (d := J (b.getD i z0)) (by repeat (first | exact List.Mem.head _ | apply List.Mem.tail)) (load_J _) fun x2 => ?_
        refine call_fn (exact_meets x1 x2 (a.getD i z0) (b.getD i z0)) (Seals.refl _ _) (by repeat (first | exact Sub.nil _ | refine Sub.cons (by repeat (first | exact List.Mem.head _ | apply List.Mem.tail)) ?_)) ?_
        rintro _ _ _ ⟨rfl, rfl, rfl⟩
        by_cases he : a.getD i z0 = b.getD i z0
        · rw [decide_eq_true he]
          refine ar rfl (by first | exact ⟨by omega, by omega⟩ | (simp only [inK]; omega)) ?_
          refine again (i + 1) ⟨by omega, fun k hk => ?_⟩ (by simp only; omega) (by repeat (first | exact trivial | refine ⟨rfl, ?_⟩ | refine ⟨i64_eq (by first | omega | (simp only; omega)), ?_⟩ | refine ⟨u64_eq (by first | omega | (simp only; omega)), ?_⟩)) (Seals.sub (by repeat (first | exact Sub.nil _ | refine Sub.cons (by repeat (first | exact List.Mem.head _ | apply List.Mem.tail)) ?_)))
          by_cases hki : k = i
          · subst hki; exact he
          · exact h2 k (by omega)
        · rw [decide_eq_false he]
          refine fin ⟨rfl, rfl, ?_⟩ (Seals.nil _ _)
          rw [decide_eq_false (fun e => he (by rw [e]))]; rfl
      · refine fin ⟨rfl, rfl, ?_⟩ (Seals.nil _ _)
        rw [decide_eq_true (row_eq_of_getD z0 hl' fun k hk => h2 k (by omega))]; rfl
theorem rFits_meets (v : Value) (a : Row) (n k : Nat) :
    Meets Try.prog 38 [v, .int .i64 (n : Int), .int .i64 (k : Int)] [(v, V a)] (fun r os fs => os = [] ∧ fs = [] ∧ r = .bool (decide (a.length ≤ n ∧ ∀ x, x ∈ a → x.2.length ≤ k))) := by
  refine meets_of_vc Try.func38 (by kernel_rfl) rfl (by kernel_rfl) (Nat.le_of_ble_eq_true rfl) ?_
  refine len_fact (by repeat (first | exact List.Mem.head _ | apply List.Mem.tail)) fun _ => ?_
  refine cmp_split _ rfl (fun hl => ?_) (fun hl => ?_)
  · refine fin ⟨rfl, rfl, ?_⟩ (Seals.nil _ _)
    rw [decide_eq_false (fun e => by have := e.1; omega)]; rfl
  · refine loop_rule (X := Nat) (fun i => ([(0, v), (1, .int .i64 (n : Nat)), (2, .int .i64 (k : Nat)), (7, .int .i64 (i : Nat))], [], [(v, V a)]))
      (fun i => i ≤ a.length ∧ ∀ j, j < i → (a.getD j z0).2.length ≤ k) (fun i => a.length - i) rfl ?_ ?_
    · exact again 0 ⟨Nat.zero_le _, fun k hk => absurd hk (Nat.not_lt_zero _)⟩ trivial (by repeat (first | exact trivial | refine ⟨rfl, ?_⟩ | refine ⟨i64_eq (by first | omega | (simp only; omega)), ?_⟩ | refine ⟨u64_eq (by first | omega | (simp only; omega)), ?_⟩)) (Seals.sub (by repeat (first | exact Sub.nil _ | refine Sub.cons (by repeat (first | exact List.Mem.head _ | apply List.Mem.tail)) ?_)))
    · rintro i ⟨h1, h2⟩
      refine len_fact (by repeat (first | exact List.Mem.head _ | apply List.Mem.tail)) fun _ => ?_
      refine cmp_split _ rfl (fun hi => ?_) (fun hi => ?_)
      · have hlt : i < a.length := by omega
        refine index_fact (by repeat (first | exact List.Mem.head _ | apply List.Mem.tail)) i rfl hlt fun a1 => ?_
        refine field_fact (off := 1) (d := J (a.getD i z0)) (d' := U (a.getD i z0).2) (by repeat (first | exact List.Mem.head _ | apply List.Mem.tail)) (Part.right (Part.refl _)) fun a2 => ?_
        refine load_fact (d := U (a.getD i z0).2) (by repeat (first | exact List.Mem.head _ | apply List.Mem.tail)) (load_L _) fun x1 => ?_
        refine len_fact (by repeat (first | exact List.Mem.head _ | apply List.Mem.tail)) fun _ => ?_
        refine cmp_split _ rfl (fun he => ?_) (fun he => ?_)
        · refine fin ⟨rfl, rfl, ?_⟩ (Seals.nil _ _)
          refine congrArg Value.bool (decide_eq_false fun e => ?_).symm
          have := e.2 (a.getD i z0) (by rw [List.getD_eq_getElem?_getD, List.getElem?_eq_getElem hlt]; exact List.getElem_mem hlt)
          omega
        · refine ar rfl (by first | exact ⟨by omega, by omega⟩ | (simp only [inK]; omega)) ?_
          refine again (i + 1) ⟨by omega, fun j hj => ?_⟩ (by simp only; omega) (by repeat (first | exact trivial | refine ⟨rfl, ?_⟩ | refine ⟨i64_eq (by first | omega | (simp only; omega)), ?_⟩ | refine ⟨u64_eq (by first | omega | (simp only; omega)), ?_⟩)) (Seals.sub (by repeat (first | exact Sub.nil _ | refine Sub.cons (by repeat (first | exact List.Mem.head _ | apply List.Mem.tail)) ?_)))
          by_cases hji : j = i
          · subst hji; omega
          · exact h2 j (by omega)
      · refine fin ⟨rfl, rfl, ?_⟩ (Seals.nil _ _)
        refine congrArg Value.bool (decide_eq_true ⟨by omega, fun x hx => ?_⟩).symm
        obtain ⟨j, hj, rfl⟩ := List.getElem_of_mem hx
        have := h2 j (by omega)
        simpa [List.getD_eq_getElem?_getD, hj] using this
end Go.Proofs.Ytfkeohlpcjpkbaa

namespace Go.Proofs.Ytfkeohlpcjpkbaa
open Go.RowKit
theorem rOwn_meets (v : Value) (a : Row) (ll : a.length ≤ 274877906944) (hk : ∀ x, x ∈ a → x.2.length ≤ 1099511627776) :
    Meets Try.prog 39 [v] [(v, V a)] (fun r os fs => os = [ownL 2 J z0 r a] ∧ isSl r ∧ fs = []) := by
  refine meets_of_vc Try.func39 (by kernel_rfl) rfl (by kernel_rfl) (Nat.le_of_ble_eq_true rfl) ?_
  refine empty_L J z0 (by decide) fun w hw => ?_
  refine loop_rule (X := Nat × Value) (fun x => ([(0, v), (3, x.2), (4, .int .i64 (x.1 : Nat))], [ownL 2 J z0 x.2 (a.take x.1)], [(v, V a)])) (fun x => x.1 ≤ a.length ∧ isSl x.2) (fun x => a.length - x.1) rfl ?_ ?_
  · exact again (0, w) ⟨Nat.zero_le _, hw⟩ trivial (by repeat (first | exact trivial | refine ⟨rfl, ?_⟩ | refine ⟨i64_eq (by first | omega | (simp only; omega)), ?_⟩ | refine ⟨u64_eq (by first | omega | (simp only; omega)), ?_⟩)) (by simp only [List.take_zero]; exact Seals.sub (by repeat (first | exact Sub.nil _ | refine Sub.cons (by repeat (first | exact List.Mem.head _ | apply List.Mem.tail)) ?_)))
  · rintro ⟨i, w⟩ ⟨h1, hw⟩
    simp only at h1 hw ⊢
    refine len_fact (by repeat (first | exact List.Mem.head _ | apply List.Mem.tail)) fun _ => ?_
    refine cmp_split _ rfl (fun hi => ?_) (fun hi => ?_)
    · have hlt : i < a.length := by omega
      have hmag : (a.getD i z0).2.length ≤ 1099511627776 := hk _ (by rw [List.getD_eq_getElem?_getD, List.getElem?_eq_getElem hlt]; exact List.getElem_mem hlt)
      refine empty_U fun u hu => ?_
      refine index_fact (by repeat (first | exact List.Mem.head _ | apply List.Mem.tail)) i rfl hlt fun a1 => ?_
      refine field_fact (off := 1) (d := J (a.getD i z0)) (d' := U (a.getD i z0).2) (by repeat (first | exact List.Mem.head _ | apply List.Mem.tail)) (Part.right (Part.refl _)) fun a2 => ?_
      refine load_fact (d := U (a.getD i z0).2) (by repeat (first | exact List.Mem.head _ | apply List.Mem.tail)) (load_L _) fun x1 => ?_
      refine AppendK.post (append_U (l := []) 0 rfl hu (Knw.fact (by repeat (first | exact List.Mem.head _ | apply List.Mem.tail))) (by simp only [List.length_nil]; omega) (by simp only [List.length_nil]; omega) fun u2 hu2 => ⟨_, _, Seals.U 0 rfl hu2, ?_⟩)
      rw [List.nil_append]
      refine index_fact (by repeat (first | exact List.Mem.head _ | apply List.Mem.tail)) i rfl hlt fun a3 => ?_
      refine field_fact (off := 0) (d := J (a.getD i z0)) (d' := .one (.bool (a.getD i z0).1)) (by repeat (first | exact List.Mem.head _ | apply List.Mem.tail)) (Part.left (Part.refl _)) fun a4 => ?_
      refine load_one (by repeat (first | exact List.Mem.head _ | apply List.Mem.tail)) ?_
      refine build2 (Knw.one rfl) (Knw.fact (by repeat (first | exact List.Mem.head _ | apply List.Mem.tail))) rfl rfl fun s => ?_
      refine lit_L (size := 2) J z0 (a.getD i z0) (by decide) (Reads.fact (by repeat (first | exact List.Mem.head _ | apply List.Mem.tail))) rfl fun l1 => ?_
      refine append_L 0 rfl hw (Knw.fact (by repeat (first | exact List.Mem.head _ | apply List.Mem.tail))) (by simp; omega) (by simp; omega) fun w2 hw2 => ?_
      refine ar rfl (by first | exact ⟨by omega, by omega⟩ | (simp only [inK]; omega)) ?_
      refine again (i + 1, w2) ⟨by simp only; omega, hw2⟩ (by simp only; omega) (by repeat (first | exact trivial | refine ⟨rfl, ?_⟩ | refine ⟨i64_eq (by first | omega | (simp only; omega)), ?_⟩ | refine ⟨u64_eq (by first | omega | (simp only; omega)), ?_⟩)) ?_
      have e : a.take (i + 1) = a.take i ++ [a.getD i z0] := by rw [List.take_add_one]; simp [List.getD_eq_getElem?_getD, hlt]
      simp only [e]
      exact Seals.sub (by repeat (first | exact Sub.nil _ | refine Sub.cons (by repeat (first | exact List.Mem.head _ | apply List.Mem.tail)) ?_))
    · have hia : i = a.length := by omega
      refine fin ⟨?_, hw, rfl⟩ (Seals.nil _ _)
      rw [hia, List.take_length]; rfl
theorem zero_meets (v : Value) (x : Bool × List Nat) (hx : Lim x.2) (hl : x.2.length ≤ 1099511627776) :
    Meets Try.prog 93 [v] [(v, J x)] (fun r os fs => os = [] ∧ fs = [] ∧ r = .bool (decide (jv x = 0))) := by
  refine meets_of_vc Try.func93 (by kernel_rfl) rfl (by kernel_rfl) (Nat.le_of_ble_eq_true rfl) ?_
  refine box_rule (Reads.fact (d := J x) (by repeat (first | exact List.Mem.head _ | apply List.Mem.tail))) fun p hp => ?_
  refine load_box (d := J x) 0 rfl hp rfl (load_J _) fun u => ?_
  refine call_fn (rSign_meets u x.1 x.2 hx hl) (Seals.refl _ _) (by repeat (first | exact Sub.nil _ | refine Sub.cons (by repeat (first | exact List.Mem.head _ | apply List.Mem.tail)) ?_)) ?_
  rintro _ _ _ ⟨rfl, rfl, rfl⟩
  refine cmp_split _ rfl (fun hc => ?_) (fun hc => ?_)
  · refine fin ⟨rfl, rfl, ?_⟩ (Seals.trans (Seals.drop 0 _ _) (Seals.nil _ _))
    exact congrArg Value.bool (decide_eq_true (show jv x = 0 from Int.sign_eq_zero_iff_zero.1 hc)).symm
  · refine fin ⟨rfl, rfl, ?_⟩ (Seals.trans (Seals.drop 0 _ _) (Seals.nil _ _))
    exact congrArg Value.bool (decide_eq_false (fun e : jv x = 0 => hc (Int.sign_eq_zero_iff_zero.2 e))).symm
/-- The greatest index below k of a number other than 0; -1 if there is none. -/
def degTo (l : List Int) : Nat → Int
  | 0 => -1
  | k + 1 => if l.getD k 0 = 0 then degTo l k else (k : Int)
def deg (l : List Int) : Int := degTo l l.length
theorem vv_get (r : Row) (i : Nat) (h : i < r.length) : (vv r).getD i 0 = jv (r.getD i z0) := by
  unfold vv; simp [List.getD_eq_getElem?_getD, h]
theorem vv_len (r : Row) : (vv r).length = r.length := by unfold vv; simp
theorem rDegree_meets (v : Value) (a : Row) (ha : Fit 1099511627776 a) :
    Meets Try.prog 68 [v] [(v, V a)] (fun r os fs => os = [] ∧ fs = [] ∧ r = .int .i64 (deg (vv a))) := by
  refine meets_of_vc Try.func68 (by kernel_rfl) rfl (by kernel_rfl) (Nat.le_of_ble_eq_true rfl) ?_
  refine len_fact (by repeat (first | exact List.Mem.head _ | apply List.Mem.tail)) fun _ => ?_
  refine ar rfl (by first | exact ⟨by omega, by omega⟩ | (simp only [inK]; omega)) ?_
  refine loop_rule (X := Nat) (fun k => ([(0, v), (3, .int .i64 ((k : Int) - 1))], [], [(v, V a)])) (fun k => k ≤ a.length ∧ degTo (vv a) k = deg (vv a)) (fun k => k) rfl ?_ ?_
  · exact again a.length ⟨Nat.le_refl _, by unfold deg; rw [vv_len]⟩ trivial (by repeat (first | exact trivial | refine ⟨rfl, ?_⟩ | refine ⟨i64_eq (by first | omega | (simp only; omega)), ?_⟩ | refine ⟨u64_eq (by first | omega | (simp only; omega)), ?_⟩)) (Seals.sub (by repeat (first | exact Sub.nil _ | refine Sub.cons (by repeat (first | exact List.Mem.head _ | apply List.Mem.tail)) ?_)))
  · rintro k ⟨h1, h2⟩
    refine cmp_split _ rfl (fun hc => ?_) (fun hc => ?_)
    · obtain ⟨i, rfl⟩ : ∃ i, k = i + 1 := ⟨k - 1, by omega⟩
      refine index_fact (by repeat (first | exact List.Mem.head _ | apply List.Mem.tail)) i (by omega) (by omega) fun a1 => ?_
      refine load_fact (d := J (a.getD i z0)) (by repeat (first | exact List.Mem.head _ | apply List.Mem.tail)) (load_J _) fun x1 => ?_
      refine call_fn (zero_meets x1 (a.getD i z0) (ha.get i).1 (ha.get i).2) (Seals.refl _ _) (by repeat (first | exact Sub.nil _ | refine Sub.cons (by repeat (first | exact List.Mem.head _ | apply List.Mem.tail)) ?_)) ?_
      rintro _ _ _ ⟨rfl, rfl, rfl⟩
      have hg := vv_get a i (by omega)
      by_cases hz : jv (a.getD i z0) = 0
      · rw [decide_eq_true hz]
        refine ar rfl (by first | exact ⟨by omega, by omega⟩ | (simp only [inK]; omega)) ?_
        refine again i ⟨by omega, ?_⟩ (by simp only; omega) (by repeat (first | exact trivial | refine ⟨rfl, ?_⟩ | refine ⟨i64_eq (by first | omega | (simp only; omega)), ?_⟩ | refine ⟨u64_eq (by first | omega | (simp only; omega)), ?_⟩)) (Seals.sub (by repeat (first | exact Sub.nil _ | refine Sub.cons (by repeat (first | exact List.Mem.head _ | apply List.Mem.tail)) ?_)))
        rw [← h2, degTo, if_pos (by rw [hg]; exact hz)]
      · rw [decide_eq_false hz]
        refine fin ⟨rfl, rfl, ?_⟩ (Seals.nil _ _)
        rw [← h2, degTo, if_neg (by rw [hg]; exact hz)]
        exact congrArg (Value.int .i64) (by omega)
    · have hk : k = 0 := by omega
      subst hk
      exact fin ⟨rfl, rfl, by rw [← h2]; rfl⟩ (Seals.nil _ _)
theorem zd_zero : zd 0 = I false [] := by unfold zd; rw [show (0 : Int).natAbs = 0 from rfl, lims_zero]; rfl
theorem rAt_meets (v : Value) (a : Row) (i : Int) (ha : Fit 1099511627776 a) :
    Meets Try.prog 66 [v, .int .i64 i] [(v, V a)] (fun r os fs => os = [] ∧ fs = [(r, zd (if i < 0 then 0 else (vv a).getD i.toNat 0))]) := by
  refine meets_of_vc Try.func66 (by kernel_rfl) rfl (by kernel_rfl) (Nat.le_of_ble_eq_true rfl) ?_
  refine alloc_rule (d := I false []) fun o ho => ?_
  have zero : (if i < 0 then (0 : Int) else (vv a).getD i.toNat 0) = 0 → True := fun _ => trivial
  refine cmp_split _ rfl (fun hc => ?_) (fun hc => ?_)
  · refine build0 (da := .one (.bool false)) (db := U (lims 0)) (fun S w => ⟨[.bool false], [.slice none 0 0], rfl, rd_false S w, by rw [lims_zero]; exact rd_nil S w 1 _⟩) fun z => ?_
    refine store_box (d := zd 0) 0 rfl ho rfl (by kernel_rfl) ?_ ?_; exact Reads.fact (by repeat (first | exact List.Mem.head _ | apply List.Mem.tail))
    refine load_box (d := zd 0) 0 rfl ho rfl (load_I _ _) fun r => ?_
    rw [if_pos hc]
    exact fin ⟨rfl, rfl⟩ (Seals.trans (Seals.drop 0 _ _) (Seals.sub (by repeat (first | exact Sub.nil _ | refine Sub.cons (by repeat (first | exact List.Mem.head _ | apply List.Mem.tail)) ?_))))
  · refine len_fact (by repeat (first | exact List.Mem.head _ | apply List.Mem.tail)) fun _ => ?_
    refine cmp_split _ rfl (fun hd => ?_) (fun hd => ?_)
    · refine build0 (da := .one (.bool false)) (db := U (lims 0)) (fun S w => ⟨[.bool false], [.slice none 0 0], rfl, rd_false S w, by rw [lims_zero]; exact rd_nil S w 1 _⟩) fun z => ?_
      refine store_box (d := zd 0) 0 rfl ho rfl (by kernel_rfl) ?_ ?_; exact Reads.fact (by repeat (first | exact List.Mem.head _ | apply List.Mem.tail))
      refine load_box (d := zd 0) 0 rfl ho rfl (load_I _ _) fun r => ?_
      rw [if_neg hc, show (vv a).getD i.toNat 0 = 0 from by rw [List.getD_eq_getElem?_getD, List.getElem?_eq_none (by rw [vv_len]; omega)]; rfl]
      exact fin ⟨rfl, rfl⟩ (Seals.trans (Seals.drop 0 _ _) (Seals.sub (by repeat (first | exact Sub.nil _ | refine Sub.cons (by repeat (first | exact List.Mem.head _ | apply List.Mem.tail)) ?_))))
    · refine index_fact (by repeat (first | exact List.Mem.head _ | apply List.Mem.tail)) i.toNat (by omega) (by omega) fun a1 => ?_
      refine load_fact (d := J (a.getD i.toNat z0)) (by repeat (first | exact List.Mem.head _ | apply List.Mem.tail)) (load_J _) fun x1 => ?_
      refine call_fn (rZNorm_meets x1 (a.getD i.toNat z0).1 (a.getD i.toNat z0).2 (ha.get _).1 (ha.get _).2) (Seals.refl _ _) (by repeat (first | exact Sub.nil _ | refine Sub.cons (by repeat (first | exact List.Mem.head _ | apply List.Mem.tail)) ?_)) ?_
      rintro w _ _ ⟨rfl, rfl⟩
      refine store_box (d := zd (iv (a.getD i.toNat z0).1 (a.getD i.toNat z0).2)) 0 rfl ho rfl (by kernel_rfl) ?_ ?_; exact Reads.fact (by repeat (first | exact List.Mem.head _ | apply List.Mem.tail))
      refine load_box (d := zd (iv (a.getD i.toNat z0).1 (a.getD i.toNat z0).2)) 0 rfl ho rfl (load_I _ _) fun r => ?_
      rw [if_neg hc, vv_get a _ (by omega)]
      exact fin ⟨rfl, rfl⟩ (Seals.trans (Seals.drop 0 _ _) (Seals.sub (by repeat (first | exact Sub.nil _ | refine Sub.cons (by repeat (first | exact List.Mem.head _ | apply List.Mem.tail)) ?_))))
end Go.Proofs.Ytfkeohlpcjpkbaa

namespace Go.Proofs.Ytfkeohlpcjpkbaa
open Go.RowKit
/-- Rows of one length, and neither without rows nor without columns. -/
def right {α : Type} (m : List (List α)) : Prop := 0 < m.length ∧ ∀ r, r ∈ m → 0 < r.length ∧ r.length = (m.getD 0 []).length
def square {α : Type} (m : List (List α)) : Prop := right m ∧ m.length = (m.getD 0 []).length
instance {α : Type} (m : List (List α)) : Decidable (right m) := inferInstanceAs (Decidable (_ ∧ _))
instance {α : Type} (m : List (List α)) : Decidable (square m) := inferInstanceAs (Decidable (_ ∧ _))
theorem getD_mem {α : Type} {l : List α} {i : Nat} (z : α) (h : i < l.length) : l.getD i z ∈ l := by
  rw [List.getD_eq_getElem?_getD, List.getElem?_eq_getElem h]; exact List.getElem_mem h
theorem mem_getD {α : Type} {l : List α} {x : α} (z : α) (h : x ∈ l) : ∃ i, i < l.length ∧ l.getD i z = x := by
  obtain ⟨i, hi, rfl⟩ := List.getElem_of_mem h
  exact ⟨i, hi, by simp [List.getD_eq_getElem?_getD, hi]⟩
theorem right.get {α : Type} {m : List (List α)} (h : right m) {i : Nat} (hi : i < m.length) : 0 < (m.getD i []).length ∧ (m.getD i []).length = (m.getD 0 []).length := h.2 _ (getD_mem [] hi)
/-- At most n rows of at most k numbers of at most c limbs. -/
def small (n k c : Nat) (m : List Row) : Prop := m.length ≤ n ∧ ∀ r, r ∈ m → r.length ≤ k ∧ ∀ x, x ∈ r → x.2.length ≤ c
instance (n k c : Nat) (m : List Row) : Decidable (small n k c m) := inferInstanceAs (Decidable (_ ∧ _))
end Go.Proofs.Ytfkeohlpcjpkbaa

namespace Go.Proofs.Ytfkeohlpcjpkbaa
open Go.RowKit
theorem BuildSliceK.pre {P : Program} {t : TypeId} {n : Nat} {ps : List (Nat × Value)} {os os' : List Own} {fs fs' : List Fact} {K : Cont} (hs : Seals os fs os' fs') (h : BuildSliceK P t n ps os' fs' K) : BuildSliceK P t n ps os fs K :=
  ⟨fun G w hw => h.out G w (hs G w hw)⟩
theorem take_snoc' {α : Type} {l : List α} {i : Nat} (z : α) (h : i < l.length) : l.take (i + 1) = l.take i ++ [l.getD i z] := by
  rw [List.take_add_one]; simp [List.getD_eq_getElem?_getD, h]
/-- The first index of a number other than 0; the length if there is none. -/
def lead0 : List Int → Nat
  | [] => 0
  | x :: l => if x = 0 then lead0 l + 1 else 0
theorem lead0_le (l : List Int) : lead0 l ≤ l.length := by
  induction l with
  | nil => exact Nat.le_refl _
  | cons x l ih => simp only [lead0, List.length_cons]; split <;> omega
/-- The rows but i, each without what stands at j. -/
def minor {α : Type} (m : List (List α)) (i j : Nat) : List (List α) := (m.eraseIdx i).map fun r => r.eraseIdx j
theorem slice_L {α : Type} {size : Nat} {f : α → Dat} {z : α} {P : Program} {t e : TypeId} {v : Value} {l : List α} {kl kh : IntKind} {os : List Own} {fs : List Fact} {K : Cont} [ht : TSl P t e size]
    (hm : (v, LD size f z l) ∈ fs) (lo hi : Nat) (x y : Option Value) (hl : (x = none ∧ lo = 0) ∨ x = some (.int kl lo)) (hh : (y = none ∧ hi = l.length) ∨ y = some (.int kh hi)) (h1 : lo ≤ hi) (h2 : hi ≤ l.length)
    (k : ∀ u, K u os ((u, LD size f z ((l.take hi).drop lo)) :: (u, .sl size (hi - lo) fun i => f (l.getD (lo + i) z)) :: fs)) : SliceK P t v x y none os fs K := by
  have h := slice_fact (P := P) (t := t) (os := os) (fs := fs) (K := fun u os' fs' => os' = os ∧ fs' = (u, .sl size (hi - lo) fun i => f (l.getD (lo + i) z)) :: fs) hm lo hi x y hl hh h1 h2 fun u => ⟨rfl, rfl⟩
  refine ⟨fun G w hw => ?_⟩
  obtain ⟨u, fs', e1, ⟨_, rfl⟩, hw'⟩ := h.out G w hw
  refine ⟨u, _, e1, k u, ?_⟩
  refine Seals.add (Knw.cast (Knw.sl_cong (e' := fun i => f (((l.take hi).drop lo).getD i z)) (Knw.fact (List.Mem.head _)) fun i hi' => ?_) ?_) G w hw'
  · simp only [List.getD_eq_getElem?_getD, List.getElem?_drop]
    rw [List.getElem?_take_of_lt (by omega)]
  · unfold LD
    rw [List.length_drop, List.length_take, Nat.min_eq_left h2]
end Go.Proofs.Ytfkeohlpcjpkbaa

namespace Go.Proofs.Ytfkeohlpcjpkbaa
open Go.RowKit
/-- What is to be shown of a region in whatever order its edges let by. -/
structure OrdK (P : Program) (N : Nat) (L : List Oper) (f : Fr) (os : List Own) (fs : List Fact) (K : Next1) : Prop where
  out : ∀ (G : Ctx) (Q : Post), Q .normal = K → ∀ l, Order .any L l → ∀ a w, Knows N f a → Holds G os fs w → wpOps P L.toArray (Qhat N G Q) l a w
end Go.Proofs.Ytfkeohlpcjpkbaa

namespace Go.Proofs.Ytfkeohlpcjpkbaa
def isum (g : Nat → Int) : Nat → Int
  | 0 => 0
  | k + 1 => isum g k + g k
theorem isum_congr {g g' : Nat → Int} : ∀ {n : Nat}, (∀ k, k < n → g k = g' k) → isum g n = isum g' n
  | 0, _ => rfl
  | n + 1, h => by simp only [isum]; rw [isum_congr (n := n) fun k hk => h k (by omega), h n (by omega)]
theorem isum_zero {g : Nat → Int} : ∀ {n : Nat}, (∀ k, k < n → g k = 0) → isum g n = 0
  | 0, _ => rfl
  | n + 1, h => by simp only [isum]; rw [isum_zero (n := n) fun k hk => h k (by omega), h n (by omega)]; rfl
theorem isum_lin (a b : Int) (f g : Nat → Int) : ∀ n, isum (fun k => a * f k + b * g k) n = a * isum f n + b * isum g n
  | 0 => by simp [isum]
  | n + 1 => by simp only [isum]; rw [isum_lin a b f g n]; grind
theorem isum_add (f g : Nat → Int) (n : Nat) : isum (fun k => f k + g k) n = isum f n + isum g n := by
  have := isum_lin 1 1 f g n; simpa using this
theorem isum_mul (a : Int) (f : Nat → Int) (n : Nat) : isum (fun k => a * f k) n = a * isum f n := by
  have := isum_lin a 0 f f n; simpa using this
theorem isum_neg (f : Nat → Int) (n : Nat) : isum (fun k => - f k) n = - isum f n := by
  have := isum_mul (-1) f n; simpa using this
theorem isum_mul_right (a : Int) (f : Nat → Int) (n : Nat) : isum (fun k => f k * a) n = isum f n * a := by
  rw [Int.mul_comm, ← isum_mul]; exact isum_congr fun k _ => Int.mul_comm _ _
theorem isum_one {g : Nat → Int} {n r : Nat} (hr : r < n) (h : ∀ k, k < n → k ≠ r → g k = 0) : isum g n = g r := by
  induction n with
  | zero => omega
  | succ n ih =>
    simp only [isum]
    by_cases hn : r = n
    · subst hn
      rw [isum_zero fun k hk => h k (by omega) (by omega)]; omega
    · rw [ih (by omega) fun k hk => h k (by omega), h n (by omega) (by omega)]; omega
theorem isum_two {g : Nat → Int} {n r : Nat} (hr : r + 1 < n) (h : ∀ k, k < n → k ≠ r → k ≠ r + 1 → g k = 0) : isum g n = g r + g (r + 1) := by
  induction n with
  | zero => omega
  | succ n ih =>
    simp only [isum]
    by_cases hn : r + 1 = n
    · subst hn
      rw [isum_one (r := r) (by omega) fun k hk hkr => h k (by omega) hkr (by omega)]
    · rw [ih (by omega) fun k hk => h k (by omega), h n (by omega) (by omega) (by omega)]; omega
theorem isum_front (g : Nat → Int) : ∀ n, isum g (n + 1) = g 0 + isum (fun k => g (k + 1)) n
  | 0 => by simp [isum]
  | n + 1 => by rw [isum, isum_front g n, isum]; omega
theorem isum_swap (f : Nat → Nat → Int) (m : Nat) : ∀ n, isum (fun i => isum (fun j => f i j) m) n = isum (fun j => isum (fun i => f i j) n) m
  | 0 => by simp only [isum]; exact (isum_zero fun _ _ => rfl).symm
  | n + 1 => by simp only [isum]; rw [isum_swap f m n, ← isum_add]
def sg (j : Nat) : Int := if j % 2 = 1 then -1 else 1
theorem sg_zero : sg 0 = 1 := rfl
theorem sg_succ (j : Nat) : sg (j + 1) = - sg j := by
  unfold sg
  by_cases h : j % 2 = 1
  · rw [if_pos h, if_neg (by omega)]; rfl
  · rw [if_neg h, if_pos (by omega)]
theorem sg_add (i j : Nat) : sg (i + j) = sg i * sg j := by
  induction j with
  | zero => simp [sg]
  | succ j ih => rw [← Nat.add_assoc, sg_succ, ih, sg_succ]; grind
theorem sg_sq (j : Nat) : sg j * sg j = 1 := by
  unfold sg; split <;> rfl
abbrev Mx := Nat → Nat → Int
/-- Past i. -/
def sk (i k : Nat) : Nat := if k < i then k else k + 1
def cut (A : Mx) (i j : Nat) : Mx := fun x y => A (sk i x) (sk j y)
def det : Nat → Mx → Int
  | 0, _ => 1
  | n + 1, A => isum (fun i => sg i * (A i 0 * det n (cut A i 0))) (n + 1)
def rw' (A : Mx) (r : Nat) (u : Nat → Int) : Mx := fun i j => if i = r then u j else A i j
def tp (A : Mx) : Mx := fun i j => A j i
def one : Mx := fun i j => if i = j then 1 else 0
def mm (n : Nat) (A B : Mx) : Mx := fun i j => isum (fun k => A i k * B k j) n
theorem sk_ne (i k : Nat) : sk i k ≠ i := by unfold sk; split <;> omega
theorem sk_lt {i k n : Nat} (h : k < n) : sk i k < n + 1 := by unfold sk; split <;> omega
theorem sk_zero (k : Nat) : sk 0 k = k + 1 := rfl
theorem sk_inj {i a b : Nat} (h : sk i a = sk i b) : a = b := by unfold sk at h; split at h <;> split at h <;> omega
theorem sk_sk {i k : Nat} (h : i ≤ k) (x : Nat) : sk i (sk k x) = sk (k + 1) (sk i x) := by
  unfold sk
  by_cases h1 : x < i
  · rw [if_pos (show x < k by omega), if_pos h1, if_pos (show x < k + 1 by omega)]
  · by_cases h2 : x < k
    · rw [if_pos h2, if_neg h1, if_pos (show x + 1 < k + 1 by omega)]
    · rw [if_neg h2, if_neg h1, if_neg (show ¬ x + 1 < i by omega), if_neg (show ¬ x + 1 < k + 1 by omega)]
/-- Where r comes to lie without i. -/
def pk (i r : Nat) : Nat := if r < i then r else r - 1
theorem sk_pk {i r : Nat} (h : r ≠ i) : sk i (pk i r) = r := by
  unfold sk pk
  by_cases h1 : r < i
  · rw [if_pos h1, if_pos h1]
  · rw [if_neg h1, if_neg (by omega)]; omega
theorem pk_lt {i r n : Nat} (hr : r < n + 1) (hi : i < n + 1) (h : r ≠ i) : pk i r < n := by unfold pk; split <;> omega
theorem sk_eq_iff {i r x : Nat} (h : r ≠ i) : sk i x = r ↔ x = pk i r :=
  ⟨fun e => sk_inj (e.trans (sk_pk h).symm), fun e => e ▸ sk_pk h⟩
theorem det_congr : ∀ {n : Nat} {A B : Mx}, (∀ i j, i < n → j < n → A i j = B i j) → det n A = det n B
  | 0, _, _, _ => rfl
  | n + 1, A, B, h => by
    simp only [det]
    refine isum_congr fun i hi => ?_
    rw [h i 0 hi (by omega), det_congr (n := n) (A := cut A i 0) (B := cut B i 0) fun x y hx hy => h _ _ (sk_lt hx) (sk_lt hy)]
theorem cut_rw_same (A : Mx) (r j : Nat) (u : Nat → Int) : cut (rw' A r u) r j = cut A r j := by
  funext x y; simp only [cut, rw', if_neg (sk_ne r x)]
theorem cut_rw {A : Mx} {i r j : Nat} (h : r ≠ i) (u : Nat → Int) : cut (rw' A r u) i j = rw' (cut A i j) (pk i r) (fun y => u (sk j y)) := by
  funext x y
  simp only [cut, rw']
  by_cases hx : x = pk i r
  · rw [if_pos hx, if_pos ((sk_eq_iff h).2 hx)]
  · rw [if_neg hx, if_neg fun e => hx ((sk_eq_iff h).1 e)]
theorem det_row_lin : ∀ {n : Nat} (A : Mx) {r : Nat}, r < n → ∀ (a b : Int) (u v : Nat → Int),
    det n (rw' A r (fun j => a * u j + b * v j)) = a * det n (rw' A r u) + b * det n (rw' A r v)
  | 0, _, _, h, _, _, _, _ => by omega
  | n + 1, A, r, hr, a, b, u, v => by
    simp only [det]
    rw [← isum_lin]
    refine isum_congr fun i hi => ?_
    by_cases h : i = r
    · subst h
      rw [cut_rw_same, cut_rw_same, cut_rw_same]
      simp only [rw', if_true]
      grind
    · have h' : r ≠ i := fun e => h e.symm
      rw [cut_rw h', cut_rw h', cut_rw h', det_row_lin (cut A i 0) (pk_lt hr hi h') a b]
      simp only [rw', if_neg h]
      grind
theorem det_row_alt : ∀ {n : Nat} {A : Mx} {r : Nat}, r + 1 < n → (∀ j, j < n → A r j = A (r + 1) j) → det n A = 0
  | 0, _, _, h, _ => by omega
  | n + 1, A, r, hr, he => by
    simp only [det]
    rw [isum_two (r := r) hr]
    · have e : det n (cut A (r + 1) 0) = det n (cut A r 0) := det_congr fun x y hx hy => by
        simp only [cut]
        by_cases h : x = r
        · subst h
          rw [show sk (x + 1) x = x from if_pos (by omega), show sk x x = x + 1 from if_neg (by omega)]
          exact he _ (sk_lt hy)
        · have : sk (r + 1) x = sk r x := by unfold sk; split <;> split <;> omega
          rw [this]
      rw [e, sg_succ, he 0 (by omega)]
      grind
    · intro i hi h1 h2
      have hp : pk i (r + 1) = pk i r + 1 := by unfold pk; split <;> split <;> omega
      have : det n (cut A i 0) = 0 := det_row_alt (r := pk i r) (by have := pk_lt hr hi (fun e => h2 e.symm); omega) fun j hj => by
        simp only [cut]
        rw [← hp, sk_pk (fun e => h2 e.symm), sk_pk (fun e => h1 e.symm)]
        exact he _ (sk_lt hj)
      rw [this]; simp
-- Columns.
theorem tr_tr (A : Mx) : tp (tp A) = A := rfl
def cw (A : Mx) (c : Nat) (u : Nat → Int) : Mx := fun i j => if j = c then u i else A i j
theorem cut_cw {A : Mx} {i c : Nat} (u : Nat → Int) : cut (cw A (c + 1) u) i 0 = cw (cut A i 0) c (fun x => u (sk i x)) := by
  funext x y
  unfold cut cw
  rw [sk_zero]
  by_cases hx : y = c
  · rw [if_pos hx, if_pos (by omega)]
  · rw [if_neg hx, if_neg (by omega)]; rfl
theorem det_col_lin : ∀ {n : Nat} (A : Mx) {c : Nat}, c < n → ∀ (a b : Int) (u v : Nat → Int),
    det n (cw A c (fun j => a * u j + b * v j)) = a * det n (cw A c u) + b * det n (cw A c v)
  | 0, _, _, h, _, _, _, _ => by omega
  | n + 1, A, 0, hr, a, b, u, v => by
    simp only [det]
    rw [← isum_lin]
    refine isum_congr fun i hi => ?_
    have e : ∀ w, cut (cw A 0 w) i 0 = cut A i 0 := fun w => by funext x y; unfold cut cw; rw [sk_zero, if_neg (by omega)]
    rw [e, e, e]
    simp only [cw, if_true]
    grind
  | n + 1, A, c + 1, hr, a, b, u, v => by
    simp only [det]
    rw [← isum_lin]
    refine isum_congr fun i hi => ?_
    rw [cut_cw, cut_cw, cut_cw, det_col_lin (cut A i 0) (by omega) a b]
    have : ¬ 0 = c + 1 := by omega
    simp only [cw, if_neg this]
    grind
theorem dsum {F : Nat → Nat → Int} : ∀ {n : Nat}, (∀ i k, i ≤ k → k < n → F i k + F (k + 1) i = 0) → isum (fun i => isum (F i) n) (n + 1) = 0
  | 0, _ => by simp [isum]
  | n + 1, h => by
    have h1 := dsum (F := F) (n := n) fun i k hi hk => h i k hi (by omega)
    rw [isum]
    have e : isum (fun i => isum (F i) (n + 1)) (n + 1) = isum (fun i => isum (F i) n) (n + 1) + isum (fun i => F i n) (n + 1) := by
      rw [← isum_add]; exact isum_congr fun i _ => rfl
    rw [e, h1, Int.zero_add, ← isum_add]
    exact isum_zero fun i hi => h i n (by omega) (by omega)
theorem det_col_alt : ∀ {n : Nat} {A : Mx} {c : Nat}, c + 1 < n → (∀ i, i < n → A i c = A i (c + 1)) → det n A = 0
  | 0, _, _, h, _ => by omega
  | 1, _, _, h, _ => by omega
  | n + 2, A, 0, hr, he => by
    simp only [det]
    rw [isum_congr (g' := fun i => isum (fun k => sg i * A i 0 * (sg k * (A (sk i k) 1 * det n (cut (cut A i 0) k 0)))) (n + 1))]
    · refine dsum fun i k hi hk => ?_
      have e1 : sk i k = k + 1 := if_neg (by omega)
      have e2 : sk (k + 1) i = i := if_pos (by omega)
      have e3 : cut (cut A i 0) k 0 = cut (cut A (k + 1) 0) i 0 := by
        funext x y; simp only [cut]; rw [sk_sk hi]
      rw [e1, e2, e3, he i (by omega), he (k + 1) (by omega), sg_succ]
      grind
    · intro i hi
      rw [isum_mul]
      have : isum (fun k => sg k * (A (sk i k) 1 * det n (cut (cut A i 0) k 0))) (n + 1) = isum (fun k => sg k * (cut A i 0 k 0 * det n (cut (cut A i 0) k 0))) (n + 1) := rfl
      rw [this]
      grind
  | n + 2, A, c + 1, hr, he => by
    rw [det]
    refine isum_zero fun i hi => ?_
    rw [det_col_alt (n := n + 1) (A := cut A i 0) (c := c) (by omega) fun x hx => by simp only [cut, sk_zero]; exact he _ (sk_lt hx)]
    simp
/-- Linear and alternating in n rows. -/
structure Form (n : Nat) (D : Mx → Int) : Prop where
  cong : ∀ {A B : Mx}, (∀ i j, i < n → j < n → A i j = B i j) → D A = D B
  lin : ∀ (A : Mx) {r : Nat}, r < n → ∀ (a b : Int) (u v : Nat → Int), D (rw' A r (fun j => a * u j + b * v j)) = a * D (rw' A r u) + b * D (rw' A r v)
  alt : ∀ {A : Mx} {r : Nat}, r + 1 < n → (∀ j, j < n → A r j = A (r + 1) j) → D A = 0
theorem det_form (n : Nat) : Form n (det n) := ⟨det_congr, fun A _ h => det_row_lin A h, det_row_alt⟩
theorem tr_cw (A : Mx) (r : Nat) (u : Nat → Int) : tp (rw' A r u) = cw (tp A) r u := rfl
theorem dett_form (n : Nat) : Form n (fun A => det n (tp A)) := by
  refine ⟨fun h => det_congr fun i j hi hj => h j i hj hi, fun A r hr a b u v => ?_, fun {A r} h he => det_col_alt (A := tp A) h fun i hi => he i hi⟩
  simp only [tr_cw]
  exact det_col_lin (tp A) hr a b u v
theorem rw_self (A : Mx) (r : Nat) : rw' A r (A r) = A := by
  funext i j; unfold rw'; split
  · rename_i h; rw [h]
  · rfl
theorem rw_comm (A : Mx) {r s : Nat} (h : r ≠ s) (u v : Nat → Int) : rw' (rw' A r u) s v = rw' (rw' A s v) r u := by
  funext i j; unfold rw'
  by_cases h1 : i = s
  · rw [if_pos h1, if_neg (by omega), if_pos h1]
  · rw [if_neg h1]
    by_cases h2 : i = r
    · rw [if_pos h2, if_pos h2]
    · rw [if_neg h2, if_neg h2, if_neg h1]
namespace Form
variable {n : Nat} {D : Mx → Int}
theorem add (h : Form n D) (A : Mx) {r : Nat} (hr : r < n) (u v : Nat → Int) : D (rw' A r (fun j => u j + v j)) = D (rw' A r u) + D (rw' A r v) := by
  have := h.lin A hr 1 1 u v; simpa using this
theorem smul (h : Form n D) (A : Mx) {r : Nat} (hr : r < n) (c : Int) (u : Nat → Int) : D (rw' A r (fun j => c * u j)) = c * D (rw' A r u) := by
  have := h.lin A hr c 0 u u; simpa using this
theorem zero (h : Form n D) {A : Mx} {r : Nat} (hr : r < n) (hz : ∀ j, j < n → A r j = 0) : D A = 0 := by
  have h1 := h.smul A hr 0 (A r)
  rw [Int.zero_mul] at h1
  rw [← h1]
  refine h.cong fun i j hi hj => ?_
  unfold rw'
  split
  · rename_i e; subst e; rw [hz j hj]; simp
  · rfl
/-- From equal rows to what changing them about does. -/
theorem swap_of (h : Form n D) {A : Mx} {r s : Nat} (hr : r < n) (hs : s < n) (hne : r ≠ s) (alt : ∀ B : Mx, (∀ j, j < n → B r j = B s j) → D B = 0) :
    D (rw' (rw' A r (A s)) s (A r)) = - D A := by
  have z : ∀ w, D (rw' (rw' A r w) s w) = 0 := fun w => alt _ fun j _ => by
    simp [rw', hne]
  have key := z fun j => A r j + A s j
  rw [h.add _ hs, rw_comm A hne, h.add _ hr, rw_comm A hne, h.add _ hr] at key
  rw [rw_comm _ (Ne.symm hne), rw_comm _ (Ne.symm hne) , rw_comm _ (Ne.symm hne), rw_comm _ (Ne.symm hne)] at key
  have z1 := z (A r)
  have z2 := z (A s)
  have e : rw' (rw' A r (A r)) s (A s) = A := by rw [rw_self, rw_self]
  have e1 : D (rw' (rw' A r fun j => A r j) s fun j => A r j) = 0 := z1
  have e2 : D (rw' (rw' A r fun j => A s j) s fun j => A s j) = 0 := z2
  have e3 : D (rw' (rw' A r fun j => A r j) s fun j => A s j) = D A := congrArg D e
  have e4 : D (rw' (rw' A r fun j => A s j) s fun j => A r j) = D (rw' (rw' A r (A s)) s (A r)) := rfl
  rw [e1, e2, e3, e4] at key
  omega
theorem alt2 (h : Form n D) : ∀ (d : Nat) {A : Mx} {r : Nat}, r + d + 1 < n → (∀ j, j < n → A r j = A (r + d + 1) j) → D A = 0
  | 0, A, r, hr, he => h.alt hr he
  | d + 1, A, r, hr, he => by
    have hs := h.swap_of (A := A) (r := r + d + 1) (s := r + d + 2) (by omega) (by omega) (by omega) fun B hB => h.alt (by omega) hB
    have : D (rw' (rw' A (r + d + 1) (A (r + d + 2))) (r + d + 2) (A (r + d + 1))) = 0 := h.alt2 d (r := r) (by omega) fun j hj => by
      have h1 : ¬ r = r + d + 2 := by omega
      have h2 : ¬ r = r + d + 1 := by omega
      have h3 : ¬ r + d + 1 = r + d + 2 := by omega
      simp only [rw', if_neg h1, if_neg h2, if_neg h3, if_true]
      exact he j hj
    omega
theorem eqRows (h : Form n D) {A : Mx} {r s : Nat} (hr : r < n) (hs : s < n) (hne : r ≠ s) (he : ∀ j, j < n → A r j = A s j) : D A = 0 := by
  rcases Nat.lt_or_gt_of_ne hne with hlt | hlt
  · obtain ⟨d, rfl⟩ : ∃ d, s = r + d + 1 := ⟨s - r - 1, by omega⟩
    exact h.alt2 d hs he
  · obtain ⟨d, rfl⟩ : ∃ d, r = s + d + 1 := ⟨r - s - 1, by omega⟩
    exact h.alt2 d hr fun j hj => (he j hj).symm
theorem swap (h : Form n D) {A : Mx} {r s : Nat} (hr : r < n) (hs : s < n) (hne : r ≠ s) : D (rw' (rw' A r (A s)) s (A r)) = - D A :=
  h.swap_of hr hs hne fun _ hB => h.eqRows hr hs hne hB
/-- A sum of rows in a row's place. -/
theorem sum (h : Form n D) (A : Mx) {r : Nat} (hr : r < n) (c : Nat → Int) (u : Nat → Nat → Int) : ∀ m, D (rw' A r (fun j => isum (fun k => c k * u k j) m)) = isum (fun k => c k * D (rw' A r (u k))) m
  | 0 => by
    simp only [isum]
    exact h.zero hr fun j _ => by unfold rw'; simp
  | m + 1 => by
    simp only [isum]
    have := h.lin A hr 1 (c m) (fun j => isum (fun k => c k * u k j) m) (u m)
    rw [h.sum A hr c u m] at this
    simpa using this
theorem addRows (h : Form n D) {A : Mx} {r : Nat} (hr : r < n) (c : Nat → Int) (s : Nat → Nat) (m : Nat) (hs : ∀ k, k < m → s k < n ∧ s k ≠ r) (u : Nat → Int) :
    D (rw' A r (fun j => u j + isum (fun k => c k * A (s k) j) m)) = D (rw' A r u) := by
  have h1 := h.add A hr u (fun j => isum (fun k => c k * A (s k) j) m)
  rw [h.sum A hr c (fun k => A (s k)) m] at h1
  rw [h1, isum_zero, Int.add_zero]
  intro k hk
  obtain ⟨k1, k2⟩ := hs k hk
  rw [h.eqRows (A := rw' A r (A (s k))) hr k1 (Ne.symm k2) fun j hj => by unfold rw'; rw [if_pos rfl, if_neg k2]]
  simp
end Form
-- Rows of units.
def unitRow (f : Nat → Nat) : Mx := fun i j => if f i = j then 1 else 0
theorem pigeon : ∀ (k : Nat) (f : Nat → Nat), (∀ i, i ≤ k → f i < k) → ∃ i j, i < j ∧ j ≤ k ∧ f i = f j
  | 0, f, h => absurd (h 0 (Nat.le_refl _)) (by omega)
  | k + 1, f, h => by
    by_cases hx : ∃ i, i ≤ k ∧ f i = f (k + 1)
    · obtain ⟨i, h1, h2⟩ := hx
      exact ⟨i, k + 1, by omega, by omega, h2⟩
    · have hne : ∀ i, i ≤ k → f i ≠ f (k + 1) := fun i hi e => hx ⟨i, hi, e⟩
      have hl := h (k + 1) (Nat.le_refl _)
      obtain ⟨i, j, h1, h2, h3⟩ := pigeon k (fun i => pk (f (k + 1)) (f i)) fun i hi => by
        have := h i (by omega)
        exact pk_lt (n := k) (by omega) hl (hne i hi)
      refine ⟨i, j, h1, by omega, ?_⟩
      rw [← sk_pk (hne i (by omega)), ← sk_pk (hne j h2), h3]
namespace Form
variable {n : Nat} {D : Mx → Int}
theorem units (h : Form n D) (h0 : D one = 0) : ∀ (k : Nat), k ≤ n → ∀ f : Nat → Nat, (∀ i, i < n → f i < n) → (∀ i, k ≤ i → i < n → f i = i) → D (unitRow f) = 0
  | 0, _, f, _, hf => by
    rw [← h0]
    exact h.cong fun i j hi hj => by unfold unitRow one; rw [hf i (by omega) hi]
  | k + 1, hk, f, hb, hf => by
    by_cases hrep : ∃ i j, i < j ∧ j < n ∧ f i = f j
    · obtain ⟨i, j, h1, h2, h3⟩ := hrep
      exact h.eqRows (r := i) (s := j) (by omega) h2 (by omega) fun y _ => by unfold unitRow; rw [h3]
    · by_cases hx : ∃ i, i ≤ k ∧ f i = k
      · obtain ⟨i, h1, h2⟩ := hx
        by_cases hik : i = k
        · subst hik
          refine units h h0 i (by omega) f hb fun x hx hxn => ?_
          by_cases e : x = i
          · rw [e, h2]
          · exact hf x (by omega) hxn
        · have hsw := h.swap (A := unitRow f) (r := i) (s := k) (by omega) (by omega) hik
          have e : rw' (rw' (unitRow f) i (unitRow f k)) k (unitRow f i) = unitRow (fun x => if x = k then f i else if x = i then f k else f x) := by
            funext x y
            unfold rw' unitRow
            by_cases e1 : x = k
            · simp [e1]
            · by_cases e2 : x = i
              · simp [e2, hik]
              · simp [e1, e2]
          rw [e, units h h0 k (by omega)] at hsw
          · omega
          · intro x hx
            split
            · exact hb _ (by omega)
            · split
              · exact hb _ (by omega)
              · exact hb _ hx
          · intro x hx hxn
            by_cases e1 : x = k
            · rw [if_pos e1, h2, e1]
            · rw [if_neg e1, if_neg (by omega)]
              exact hf x (by omega) hxn
      · exfalso
        have hlow : ∀ i, i ≤ k → f i < k := fun i hi => by
          rcases Nat.lt_or_ge (f i) k with h1 | h1
          · exact h1
          · exfalso
            by_cases e : f i = k
            · exact hx ⟨i, hi, e⟩
            · exact hrep ⟨i, f i, by omega, hb i (by omega), (hf (f i) (by omega) (hb i (by omega))).symm⟩
        obtain ⟨i, j, h1, h2, h3⟩ := pigeon k f hlow
        exact hrep ⟨i, j, h1, by omega, h3⟩
theorem vanish (h : Form n D) (h0 : D one = 0) : ∀ (k : Nat), k ≤ n → ∀ (A : Mx) (f : Nat → Nat), (∀ i, i < n → f i < n) → (∀ i j, k ≤ i → i < n → j < n → A i j = unitRow f i j) → D A = 0
  | 0, _, A, f, hb, hA => by
    rw [← units h h0 n (Nat.le_refl _) f hb fun i h1 h2 => by omega]
    exact h.cong fun i j hi hj => hA i j (by omega) hi hj
  | k + 1, hk, A, f, hb, hA => by
    have e : D A = D (rw' A k (fun j => isum (fun c => A k c * one c j) n)) := h.cong fun i j hi hj => by
      unfold rw'
      split
      · rename_i e
        subst e
        show _ = isum _ n
        rw [isum_one (r := j) hj fun c _ hc => by simp [one, hc]]
        simp [one]
      · rfl
    rw [e, h.sum A (by omega) (fun c => A k c) one n]
    refine isum_zero fun c hc => ?_
    rw [vanish h h0 k (by omega) (rw' A k (one c)) (fun x => if x = k then c else f x) (fun i hi => by split; exact hc; exact hb i hi) fun i j h1 h2 h3 => ?_]
    · simp
    · unfold rw' unitRow
      by_cases hik : i = k
      · simp [hik, one]
      · simp only [if_neg hik]
        exact hA i j (by omega) h2 h3
end Form
theorem det_one : ∀ n, det n one = 1
  | 0 => rfl
  | n + 1 => by
    rw [det, isum_one (r := 0) (by omega) fun k _ hk => by simp [one, hk]]
    have : det n (cut one 0 0) = det n one := det_congr fun i j _ _ => by simp [cut, one, sk_zero]
    rw [this, det_one n]; rfl
/-- There is but one. -/
theorem Form.eq {n : Nat} {D : Mx → Int} (h : Form n D) (A : Mx) : D A = det n A * D one := by
  have hE : Form n (fun A => D A - det n A * D one) := by
    refine ⟨fun hc => by rw [h.cong hc, det_congr hc], fun A r hr a b u v => ?_, fun hr he => by rw [h.alt hr he, det_row_alt hr he]; simp⟩
    rw [h.lin A hr, det_row_lin A hr]
    grind
  have := hE.vanish (by rw [det_one]; omega) n (Nat.le_refl _) A (fun i => i) (fun i hi => hi) fun i j h1 h2 => by omega
  omega
theorem tr_one : tp one = one := by
  funext i j; unfold tp one
  by_cases h : i = j
  · subst h; rfl
  · rw [if_neg h, if_neg (Ne.symm h)]
theorem det_tr (n : Nat) (A : Mx) : det n (tp A) = det n A := by
  have := (dett_form n).eq A
  simp only [tr_one, det_one, Int.mul_one] at this
  exact this
theorem mul_rw (n : Nat) (A B : Mx) (r : Nat) (u : Nat → Int) : mm n (rw' A r u) B = rw' (mm n A B) r (fun j => isum (fun k => u k * B k j) n) := by
  funext i j
  unfold mm rw'
  by_cases h : i = r
  · simp only [if_pos h]
  · simp only [if_neg h]
theorem det_mul (n : Nat) (A B : Mx) : det n (mm n A B) = det n A * det n B := by
  have h : Form n (fun A => det n (mm n A B)) := by
    refine ⟨fun hc => det_congr fun i j hi hj => isum_congr fun k hk => by rw [hc i k hi hk], fun A r hr a b u v => ?_, fun {A r} hr he => det_row_alt hr fun j hj => isum_congr fun k hk => by rw [he k hk]⟩
    simp only [mul_rw]
    rw [← det_row_lin _ hr]
    congr 2
    funext j
    rw [← isum_lin]
    exact isum_congr fun k _ => by grind
  have := h.eq A
  rw [this]
  congr 1
  refine det_congr fun i j hi hj => ?_
  unfold mm
  rw [isum_one (r := i) hi fun k _ hk => by simp [one, Ne.symm hk]]
  simp [one]
-- Any column, any row.
def mv (A : Mx) (j : Nat) : Mx := fun x y => A x (if y = 0 then j else sk j (y - 1))
theorem det_mv (n : Nat) : ∀ (j : Nat) (A : Mx), j < n → det n (mv A j) = sg j * det n A
  | 0, A, _ => by
    rw [sg_zero, Int.one_mul]
    refine det_congr fun x y _ _ => ?_
    unfold mv
    congr 1
    by_cases h : y = 0
    · rw [if_pos h, h]
    · rw [if_neg h, sk_zero]; omega
  | j + 1, A, hj => by
    have hsw := (dett_form n).swap (A := tp A) (r := j) (s := j + 1) (by omega) hj (by omega)
    simp only [tr_tr] at hsw
    have ih := det_mv n j (tp (rw' (rw' (tp A) j (tp A (j + 1))) (j + 1) (tp A j))) (by omega)
    rw [hsw] at ih
    rw [sg_succ, Int.neg_mul, ← Int.mul_neg, ← ih]
    refine det_congr fun x y _ _ => ?_
    unfold mv tp rw'
    by_cases h : y = 0
    · simp [h]
    · simp only [if_neg h]
      by_cases h1 : y - 1 < j
      · have e1 : sk j (y - 1) = y - 1 := if_pos h1
        have e2 : sk (j + 1) (y - 1) = y - 1 := if_pos (by omega)
        rw [e1, e2, if_neg (by omega), if_neg (by omega)]
      · by_cases h2 : y - 1 = j
        · have e1 : sk j (y - 1) = j + 1 := by unfold sk; rw [if_neg h1]; omega
          have e2 : sk (j + 1) (y - 1) = j := by unfold sk; rw [if_pos (by omega)]; omega
          rw [e1, e2, if_pos rfl]
        · have e1 : sk j (y - 1) = y := by unfold sk; rw [if_neg h1]; omega
          have e2 : sk (j + 1) (y - 1) = y := by unfold sk; rw [if_neg (by omega)]; omega
          rw [e1, e2, if_neg (by omega), if_neg (by omega)]
theorem det_col {n : Nat} (A : Mx) {j : Nat} (hj : j < n + 1) : det (n + 1) A = isum (fun i => sg (i + j) * (A i j * det n (cut A i j))) (n + 1) := by
  have h1 := det_mv (n + 1) j A hj
  have h2 : det (n + 1) (mv A j) = isum (fun i => sg i * (A i j * det n (cut A i j))) (n + 1) := by
    rw [det]
    refine isum_congr fun i _ => ?_
    have : cut (mv A j) i 0 = cut A i j := by funext x y; simp [cut, mv, sk_zero]
    rw [this]; simp [mv]
  rw [h2] at h1
  have h3 : det (n + 1) A = sg j * (sg j * det (n + 1) A) := by rw [← Int.mul_assoc, sg_sq, Int.one_mul]
  rw [h3, ← h1, ← isum_mul]
  refine isum_congr fun i _ => ?_
  rw [sg_add]; grind
theorem cut_tr (A : Mx) (i j : Nat) : cut (tp A) i j = tp (cut A j i) := rfl
theorem det_row {n : Nat} (A : Mx) {i : Nat} (hi : i < n + 1) : det (n + 1) A = isum (fun j => sg (i + j) * (A i j * det n (cut A i j))) (n + 1) := by
  rw [← det_tr, det_col (tp A) hi]
  refine isum_congr fun j _ => ?_
  rw [cut_tr, det_tr, Nat.add_comm]; rfl
/-- The adjugate of n + 1 rows. -/
def adj (n : Nat) (A : Mx) : Mx := fun i j => sg (i + j) * det n (cut A j i)
theorem mul_adj {n : Nat} (A : Mx) {i j : Nat} (hi : i < n + 1) (hj : j < n + 1) : mm (n + 1) A (adj n A) i j = if i = j then det (n + 1) A else 0 := by
  have h := det_row (rw' A j (A i)) hj
  have e : mm (n + 1) A (adj n A) i j = det (n + 1) (rw' A j (A i)) := by
    rw [h]
    unfold mm adj
    refine isum_congr fun k _ => ?_
    rw [cut_rw_same, Nat.add_comm k j]
    simp only [rw', if_true]
    grind
  rw [e]
  by_cases hij : i = j
  · subst hij; rw [if_pos rfl, rw_self]
  · rw [if_neg hij]
    exact (det_form (n + 1)).eqRows hi hj hij fun y _ => by unfold rw'; rw [if_neg hij, if_pos rfl]
end Go.Proofs.Ytfkeohlpcjpkbaa

namespace Go.Proofs.Ytfkeohlpcjpkbaa
theorem mul_congr {n : Nat} {A A' B B' : Mx} {i j : Nat} (h1 : ∀ k, k < n → A i k = A' i k) (h2 : ∀ k, k < n → B k j = B' k j) : mm n A B i j = mm n A' B' i j :=
  isum_congr fun k hk => by rw [h1 k hk, h2 k hk]
theorem mul_assoc (m n : Nat) (A B C : Mx) (i j : Nat) : mm n (mm m A B) C i j = mm m A (mm n B C) i j := by
  unfold mm
  rw [isum_congr (g' := fun k => isum (fun l => A i l * B l k * C k j) m) fun k _ => (isum_mul_right _ _ _).symm, isum_swap]
  exact isum_congr fun l _ => by rw [← isum_mul]; exact isum_congr fun k _ => Int.mul_assoc _ _ _
theorem one_mul {n : Nat} (A : Mx) {i j : Nat} (hi : i < n) : mm n one A i j = A i j := by
  unfold mm
  rw [isum_one (r := i) hi fun k _ hk => by simp [one, Ne.symm hk]]
  simp [one]
theorem mul_sum_left (n : Nat) (c : Int) (A B : Mx) (i j : Nat) : mm n (fun x y => c * A x y) B i j = c * mm n A B i j := by
  unfold mm; rw [← isum_mul]; exact isum_congr fun k _ => Int.mul_assoc _ _ _
theorem mul_sum_right (n : Nat) (c : Int) (A B : Mx) (i j : Nat) : mm n A (fun x y => c * B x y) i j = c * mm n A B i j := by
  unfold mm; rw [← isum_mul]; exact isum_congr fun k _ => by grind
def Lo (r R C : Nat) (A : Mx) : Prop := ∃ X Y : Mx, det r (mm C (mm R X A) Y) ≠ 0
def Up (r R C : Nat) (A : Mx) : Prop := ∃ d : Int, d ≠ 0 ∧ ∃ B E : Mx, ∀ i k, i < R → k < C → d * A i k = mm r B E i k
theorem det_zero_col {n : Nat} {A : Mx} {c : Nat} (hc : c < n) (h : ∀ i, i < n → A i c = 0) : det n A = 0 := by
  rw [← det_tr]
  exact (det_form n).zero hc fun j hj => h j hj
theorem isum_cut {g : Nat → Int} {m n : Nat} (h : m ≤ n) (hz : ∀ k, m ≤ k → k < n → g k = 0) : isum g n = isum g m := by
  induction n with
  | zero => have : m = 0 := by omega
            subst this; rfl
  | succ n ih =>
    by_cases e : m = n + 1
    · rw [e]
    · rw [isum, hz n (by omega) (by omega), ih (by omega) fun k h1 h2 => hz k h1 (by omega)]; omega
/-- A product over fewer than its rows has the determinant 0. -/
theorem det_thin {s r : Nat} (h : s < r) (U V : Mx) : det r (mm s U V) = 0 := by
  have e : ∀ i j, mm s U V i j = mm r (fun i k => if k < s then U i k else 0) V i j := fun i j => by
    unfold mm
    rw [isum_cut (m := s) (n := r) (by omega) fun k h1 _ => by show (if k < s then U i k else 0) * V k j = 0; rw [if_neg (by omega)]; simp]
    exact isum_congr fun k hk => by show _ = (if k < s then U i k else 0) * V k j; rw [if_pos hk]
  rw [det_congr fun i j _ _ => e i j, det_mul, det_zero_col (c := s) h fun i _ => by rw [if_neg (by omega)], Int.zero_mul]
theorem det_smul : ∀ (n : Nat) (c : Int) (A : Mx), det n (fun i j => c * A i j) = c ^ n * det n A
  | 0, c, A => by simp [det]
  | n + 1, c, A => by
    simp only [det]
    rw [← isum_mul]
    refine isum_congr fun i _ => ?_
    have : cut (fun i j => c * A i j) i 0 = fun x y => c * cut A i 0 x y := rfl
    rw [this, det_smul n c, Int.pow_succ]
    grind
theorem pow_ne {d : Int} (hd : d ≠ 0) : ∀ n : Nat, d ^ n ≠ 0
  | 0 => by simp
  | n + 1 => by rw [Int.pow_succ]; exact Int.mul_ne_zero (pow_ne hd n) hd
theorem Lo_le_Up {r s R C : Nat} {A : Mx} (h1 : Lo r R C A) (h2 : Up s R C A) : r ≤ s := by
  rcases Nat.lt_or_ge s r with h | h
  · exfalso
    obtain ⟨X, Y, h1⟩ := h1
    obtain ⟨d, hd, B, E, h2⟩ := h2
    have h3 : det r (fun i j => d * mm C (mm R X A) Y i j) = 0 := by
      rw [← det_thin h (mm R X B) (mm C E Y)]
      refine det_congr fun i j hi hj => ?_
      rw [← mul_sum_left]
      have e1 : ∀ k, k < C → (fun x y => d * mm R X A x y) i k = mm R X (mm s B E) i k := fun k hk => by
        simp only
        rw [← mul_sum_right]
        exact mul_congr (fun _ _ => rfl) fun l hl => h2 l k hl hk
      rw [mul_congr e1 (fun _ _ => rfl)]
      rw [mul_congr (A := mm R X (mm s B E)) (A' := mm s (mm R X B) E) (fun k _ => (mul_assoc R s X B E i k).symm) (fun _ _ => rfl), mul_assoc]
    rw [det_smul] at h3
    rcases Int.mul_eq_zero.1 h3 with h4 | h4
    · exact pow_ne hd _ h4
    · exact h1 h4
  · exact h
structure Rk (r R C : Nat) (A : Mx) : Prop where
  lo : Lo r R C A
  up : Up r R C A
theorem Up.mul_left {r R K C : Nat} {A B : Mx} (h : Up r R K A) : Up r R C (mm K A B) := by
  obtain ⟨d, hd, U, V, h⟩ := h
  refine ⟨d, hd, U, mm K V B, fun i k hi hk => ?_⟩
  rw [← mul_assoc, ← mul_sum_left]
  exact mul_congr (fun l hl => h i l hi hl) (fun _ _ => rfl)
theorem Up.mul_right {r R K C : Nat} {A B : Mx} (h : Up r K C B) : Up r R C (mm K A B) := by
  obtain ⟨d, hd, U, V, h⟩ := h
  refine ⟨d, hd, mm K A U, V, fun i k hi hk => ?_⟩
  rw [mul_assoc, ← mul_sum_right]
  exact mul_congr (fun _ _ => rfl) (fun l hl => h l k hl hk)
theorem Rk.mul {r s t R K C : Nat} {A B : Mx} (h : Rk r R K A) (h' : Rk s K C B) (h'' : Rk t R C (mm K A B)) : t ≤ r ∧ t ≤ s :=
  ⟨Lo_le_Up h''.lo h.up.mul_left, Lo_le_Up h''.lo h'.up.mul_right⟩
/-- More rows that depend on those. -/
theorem Up.more {r R R' C : Nat} {A A' : Mx} (h : Up r R C A) (D : Mx) (hd : ∀ i k, i < R' → k < C → A' i k = mm R D A i k) : Up r R' C A' := by
  obtain ⟨d, hd0, B, E, h⟩ := h
  refine ⟨d, hd0, mm R D B, E, fun i k hi hk => ?_⟩
  rw [hd i k hi hk, mul_assoc, ← mul_sum_right]
  exact mul_congr (fun _ _ => rfl) fun l hl => h l k hl hk
theorem Lo.more {r R R' C : Nat} {A A' : Mx} (h : Lo r R C A) (D : Mx) (hd : ∀ i k, i < R → k < C → A i k = mm R' D A' i k) : Lo r R' C A' := by
  obtain ⟨X, Y, h⟩ := h
  refine ⟨mm R X D, Y, fun e => h ?_⟩
  rw [← e]
  refine det_congr fun i j _ _ => ?_
  refine mul_congr (fun k hk => ?_) (fun _ _ => rfl)
  rw [mul_assoc]
  exact mul_congr (fun _ _ => rfl) fun l hl => hd l k hl hk
theorem Rk.congr {r R C : Nat} {A A' : Mx} (h : Rk r R C A) (he : ∀ i k, i < R → k < C → A i k = A' i k) : Rk r R C A' := by
  refine ⟨h.lo.more one fun i k hi hk => ?_, h.up.more one fun i k hi hk => ?_⟩
  · rw [one_mul _ hi, he i k hi hk]
  · rw [one_mul _ hi, he i k hi hk]
-- A nought to the right above, or below.
end Go.Proofs.Ytfkeohlpcjpkbaa

namespace Go.Proofs.Ytfkeohlpcjpkbaa
open Go.RowKit
-- Sizes.
/-- At most e limbs. -/
def sz (x : Int) (e : Nat) : Prop := x.natAbs < 18446744073709551616 ^ e
theorem sz.len {x : Int} {e : Nat} (h : sz x e) : (lims x.natAbs).length ≤ e := lims_length_le h
theorem sz.mono {x : Int} {e e' : Nat} (h : sz x e) (he : e ≤ e') : sz x e' := Nat.lt_of_lt_of_le h (Nat.pow_le_pow_right (by decide) he)
theorem sz.mul {x y : Int} {a b : Nat} (h : sz x a) (h' : sz y b) : sz (x * y) (a + b) := by
  unfold sz at *
  rw [Int.natAbs_mul, Nat.pow_add]
  exact Nat.mul_lt_mul'' h h'
theorem sz.neg {x : Int} {a : Nat} (h : sz x a) : sz (-x) a := by unfold sz at *; rwa [Int.natAbs_neg]
theorem sz_jv {x : Bool × List Nat} {k : Nat} (h : Lim x.2) (hl : x.2.length ≤ k) : sz (jv x) k := by
  unfold sz jv
  rw [iv_abs]
  exact Nat.lt_of_lt_of_le (nv_lt h) (Nat.pow_le_pow_right (by decide) hl)
theorem sz_zero (e : Nat) : sz 0 e := Nat.pow_pos (by decide)
theorem isum_le {g : Nat → Int} {e : Nat} : ∀ {n : Nat}, (∀ k, k < n → sz (g k) e) → (isum g n).natAbs ≤ n * 18446744073709551616 ^ e
  | 0, _ => by simp [isum]
  | n + 1, h => by
    have h1 := isum_le (n := n) fun k hk => h k (by omega)
    have h2 := h n (by omega)
    unfold sz at h2
    simp only [isum]
    have := Int.natAbs_add_le (isum g n) (g n)
    rw [Nat.add_mul, Nat.one_mul]
    omega
theorem isum_sz {g : Nat → Int} {e n : Nat} (h : ∀ k, k < n → sz (g k) e) (hn : n < 18446744073709551616) : sz (isum g n) (e + 1) := by
  have h1 := isum_le h
  unfold sz
  rw [Nat.pow_succ, Nat.mul_comm]
  exact Nat.lt_of_le_of_lt h1 (Nat.mul_lt_mul_of_pos_right hn (Nat.pow_pos (by decide)))
theorem ww_get (m : List Row) (i : Nat) : (ww m).getD i [] = vv (m.getD i []) := by
  unfold ww
  by_cases h : i < m.length
  · simp [List.getD_eq_getElem?_getD, h]
  · simp [List.getD_eq_getElem?_getD, h, vv]
theorem ww_len (m : List Row) : (ww m).length = m.length := by unfold ww; simp
/-- n rows of n numbers of at most k limbs. -/
structure Sq (n k : Nat) (m : List Row) : Prop where
  rows : m.length = n
  cols : ∀ r, r ∈ m → r.length = n
  fits : Fits k m
theorem Sq.minor {n k : Nat} {m : List Row} (h : Sq (n + 1) k m) {i j : Nat} (hi : i < n + 1) (hj : j < n + 1) : Sq n k (minor m i j) := by
  refine ⟨?_, fun r hr => ?_, fun r hr => ?_⟩
  · unfold Go.Proofs.Ytfkeohlpcjpkbaa.minor
    rw [List.length_map, List.length_eraseIdx_of_lt (by rw [h.rows]; exact hi), h.rows]; rfl
  · obtain ⟨r', hr', rfl⟩ := List.mem_map.1 hr
    have := h.cols r' (List.mem_of_mem_eraseIdx hr')
    rw [List.length_eraseIdx_of_lt (by omega), this]; rfl
  · obtain ⟨r', hr', rfl⟩ := List.mem_map.1 hr
    exact fun x hx => h.fits r' (List.mem_of_mem_eraseIdx hr') x (List.mem_of_mem_eraseIdx hx)
theorem Sq.at {n k : Nat} {m : List Row} (h : Sq n k m) {i j : Nat} (hi : i < n) (hj : j < n) : ((ww m).getD i []).getD j 0 = jv ((m.getD i []).getD j z0) := by
  have hr : (m.getD i []).length = n := h.cols _ (getD_mem [] (by rw [h.rows]; exact hi))
  rw [ww_get, vv_get _ _ (by omega)]
theorem Seals.box0 {os : List Own} {fs : List Fact} {p : Value} {size : Nat} {e : Nat → Dat} {d : Dat} (h : e 0 = d) : Seals (own1 p size 1 e :: os) fs (own1 p size 1 (fun _ => d) :: os) fs :=
  Seals.own_cong (os := own1 p size 1 e :: os) 0 (fun _ => d) rfl rfl fun i hi => by
    have : i = 0 := by omega
    subst this; exact h
theorem rAddZ (v w : Value) (x y : Int) (e : Nat) (hx : sz x e) (hy : sz y e) (he : e ≤ 137438953472) :
    Meets Try.prog 23 [v, w] [(v, zd x), (w, zd y)] (fun r os fs => os = [] ∧ fs = [(r, zd (x + y))]) := by
  have h := rZAdd_meets v w (decide (x < 0)) (decide (y < 0)) (lims x.natAbs) (lims y.natAbs) (Lim_lims _) (Lim_lims _) (Nat.le_trans hx.len he) (Nat.le_trans hy.len he)
  rw [iv_zd, iv_zd] at h
  exact h
end Go.Proofs.Ytfkeohlpcjpkbaa

namespace Go.Proofs.Ytfkeohlpcjpkbaa
open Go.RowKit
theorem rMulJ (v w : Value) (x y : Bool × List Nat) (hx : Lim x.2) (lx : x.2.length ≤ 137438953472) (hy : Lim y.2) (ly : y.2.length ≤ 137438953472) :
    Meets Try.prog 24 [v, w] [(v, J x), (w, J y)] (fun r os fs => os = [] ∧ fs = [(r, zd (jv x * jv y))]) := rZMul_meets v w x.1 y.1 x.2 y.2 hx hy lx ly
/-- A row less a multiple of another one, so that where the other one begins there is a nought. -/
def red1 (p r : List Int) : List Int := (List.range r.length).map fun k => p.getD (lead0 p) 0 * r.getD k 0 - r.getD (lead0 p) 0 * p.getD k 0
theorem red1_len (p r : List Int) : (red1 p r).length = r.length := by unfold red1; simp
theorem red1_get (p r : List Int) {k : Nat} (h : k < r.length) : (red1 p r).getD k 0 = p.getD (lead0 p) 0 * r.getD k 0 - r.getD (lead0 p) 0 * p.getD k 0 := by
  unfold red1; simp [List.getD_eq_getElem?_getD, h]
theorem sz_sub {x y : Int} {e : Nat} (h : sz x e) (h' : sz y e) : sz (x - y) (e + 1) := by
  unfold sz at *
  rw [Nat.pow_succ]
  have := Int.natAbs_sub_le x y
  omega
theorem Fit_cn {l : List Int} {e : Nat} (h : ∀ x, x ∈ l → sz x e) : Fit e (l.map cn) := fun p hp => by
  obtain ⟨x, hx, rfl⟩ := List.mem_map.1 hp
  exact ⟨Lim_lims _, (h x hx).len⟩
def dep (ps : List (List Int)) (r : List Int) : List Int := ps.foldl (fun r p => red1 p r) r
theorem map_cn_get {l : List Int} {k : Nat} (h : k < l.length) : (l.map cn).getD k z0 = cn (l.getD k 0) := by
  simp [List.getD_eq_getElem?_getD, h]
end Go.Proofs.Ytfkeohlpcjpkbaa

namespace Go.Proofs.Ytfkeohlpcjpkbaa
open Go.RowKit
theorem Fit.mono {k k' : Nat} {r : Row} (h : Fit k r) (hk : k ≤ k') : Fit k' r := fun x hx => ⟨(h x hx).1, Nat.le_trans (h x hx).2 hk⟩
theorem Fits.mono {k k' : Nat} {m : List Row} (h : Fits k m) (hk : k ≤ k') : Fits k' m := fun r hr => (h r hr).mono hk
def rstep (acc : List (List Int)) (r : List Int) : List (List Int) := if lead0 (dep acc r) = (dep acc r).length then acc else acc ++ [dep acc r]
end Go.Proofs.Ytfkeohlpcjpkbaa

namespace Go.Proofs.Ytfkeohlpcjpkbaa
open Go.RowKit
end Go.Proofs.Ytfkeohlpcjpkbaa

namespace Go.Proofs.Ytfkeohlpcjpkbaa
open Go.RowKit
def fitsProd {α β : Type} (a : List (List α)) (b : List (List β)) : Prop := right a ∧ right b ∧ b.length = (a.getD 0 []).length
instance {α β : Type} (a : List (List α)) (b : List (List β)) : Decidable (fitsProd a b) := inferInstanceAs (Decidable (_ ∧ _))
end Go.Proofs.Ytfkeohlpcjpkbaa

namespace Go.Proofs.Ytfkeohlpcjpkbaa
open Go.RowKit
end Go.Proofs.Ytfkeohlpcjpkbaa

namespace Go.Proofs.Ytfkeohlpcjpkbaa
open Go.RowKit
theorem AppendK.pre {P : Program} {ts : List TypeId} {ty : TypeId} {a b : Value} {os os' : List Own} {fs fs' : List Fact} {K : Cont} (hs : Seals os fs os' fs') (h : AppendK P ts ty a b os' fs' K) : AppendK P ts ty a b os fs K :=
  ⟨fun G w hw => h.out G w (hs G w hw)⟩
/-- Two polynomials that have no matrix. -/
def bare (p q : List Int) : Prop := deg p < 0 ∨ deg q < 0 ∨ deg p + deg q = 0
instance (p q : List Int) : Decidable (bare p q) := inferInstanceAs (Decidable (_ ∨ _))
end Go.Proofs.Ytfkeohlpcjpkbaa

namespace Go.Proofs.Ytfkeohlpcjpkbaa
open Go.RowKit
end Go.Proofs.Ytfkeohlpcjpkbaa

namespace Go.Proofs.Ytfkeohlpcjpkbaa
open Go.RowKit
end Go.Proofs.Ytfkeohlpcjpkbaa

namespace Go.Proofs.Ytfkeohlpcjpkbaa
open Go.RowKit
theorem OwnVal.congr {S : Nat → Prop} {B : Nat} {w : World} {v : Value} {size n : Nat} {e e' : Nat → Dat} (h : OwnVal S B w v size n e) (he : ∀ j, j < n → e' j = e j) (hz : 0 < size) : OwnVal S B w v size n e' := by
  have row : ∀ {r n' cap}, n' ≤ n → OwnRow S B w r size n' cap e → OwnRow S B w r size n' cap e' := fun hn ⟨h1, h2, h3, cur, t, h4, h5, h6⟩ =>
    ⟨h1, h2, h3, cur, t, h4, h5, fun i hi => by rw [he i (by omega)]; exact h6 i hi⟩
  rcases h with h | ⟨r, cap, hv, h⟩ | ⟨r, hv, hn, h⟩ | ⟨_, h, _⟩
  · exact .inl h
  · exact .inr (.inl ⟨r, cap, hv, row (Nat.le_refl _) h⟩)
  · exact .inr (.inr (.inl ⟨r, hv, hn, row (by omega) h⟩))
  · omega
theorem Seals.join {size n : Nat} {x : Value} {e : Nat → Dat} {F F' : Own} {os : List Own} {fs : List Fact} (hm : F'.m = F.m + 1) (hs : F'.size = F.size) (hs2 : F.size = size)
    (hv : ∀ i, i < F.m → F'.v i = F.v i ∧ F'.n i = F.n i ∧ ∀ j, j < F.n i → F'.e i j = F.e i j) (hx : F'.v F.m = x ∧ F'.n F.m = n ∧ ∀ j, j < n → F'.e F.m j = e j) (hz : 0 < size := by exact Nat.zero_lt_succ _) :
    Seals (own1 x size n e :: F :: os) fs (F' :: os) fs := by
  intro G w hw
  have has : ∀ b, F'.has b ↔ (own1 x size n e).has b ∨ F.has b := by
    intro b
    constructor
    · rintro ⟨i, hi, hb⟩
      by_cases hif : i < F.m
      · exact .inr ⟨i, hif, by rw [← (hv i hif).1]; exact hb⟩
      · have : i = F.m := by omega
        subst this
        exact .inl ⟨0, Nat.zero_lt_one, by rw [hx.1] at hb; exact hb⟩
    · rintro (⟨i, hi, hb⟩ | ⟨i, hi, hb⟩)
      · exact ⟨F.m, by omega, by rw [hx.1]; exact hb⟩
      · exact ⟨i, by omega, by rw [(hv i hi).1]; exact hb⟩
  have own : ∀ b, owned (F' :: os) b ↔ owned (own1 x size n e :: F :: os) b := fun b => by simp only [owned, has b, or_assoc]
  have good : ∀ b, Good G.A (own1 x size n e :: F :: os) w b → Good G.A (F' :: os) w b := fun b ⟨g1, g2, g3⟩ => ⟨g1, g2, fun h => g3 ((own b).1 h)⟩
  have agree : Agree (Good G.A (own1 x size n e :: F :: os) w) w w := fun _ _ => rfl
  obtain ⟨a1, a2, a3, a4, a5⟩ := hw.apart
  refine ⟨hw.low, hw.size, hw.below, ⟨fun i j b hi hj h1 h2 => ?_, fun b hb ho => ?_, a5⟩, fun o ho i hi => ?_, hw.facts.mono agree good⟩
  · by_cases hif : i < F.m
    · rw [(hv i hif).1] at h1
      by_cases hjf : j < F.m
      · rw [(hv j hjf).1] at h2
        exact a3 i j b hif hjf h1 h2
      · have : j = F.m := by omega
        subst this
        rw [hx.1] at h2
        exact absurd (show owned (F :: os) b from .inl ⟨i, hif, h1⟩) (a2 b ⟨0, Nat.zero_lt_one, h2⟩)
    · have : i = F.m := by omega
      subst this
      rw [hx.1] at h1
      by_cases hjf : j < F.m
      · rw [(hv j hjf).1] at h2
        exact absurd (show owned (F :: os) b from .inl ⟨j, hjf, h2⟩) (a2 b ⟨0, Nat.zero_lt_one, h1⟩)
      · omega
  · rcases (has b).1 hb with h | h
    · exact a2 b h (.inr ho)
    · exact a4 b h ho
  · rcases List.mem_cons.1 ho with rfl | ho
    · by_cases hif : i < F.m
      · obtain ⟨q1, q2, q3⟩ := hv i hif
        have := (hw.own F (by simp) i hif).mono agree good (fun _ _ => rfl)
        rw [q1, q2, hs]
        exact this.congr q3 (by omega)
      · have : i = F.m := by omega
        subst this
        have := (hw.own (own1 x size n e) (by simp) 0 Nat.zero_lt_one).mono agree good (fun _ _ => rfl)
        rw [hx.1, hx.2.1, hs, hs2]
        exact OwnVal.congr this hx.2.2 (by omega)
    · exact (hw.own o (by simp [ho]) i hi).mono agree good (fun _ _ => rfl)
theorem good_sub {A : Nat → Prop} {os : List Own} {w : World} {b pos : Nat} : Good A os w b → Good A (dropOwn os pos) w b := fun ⟨h1, h2, h3⟩ => ⟨h1, h2, fun hb => h3 (by
  obtain ⟨x, hx, hxb⟩ := owned_mem.1 hb
  obtain ⟨i, _, hi⟩ := dropOwn_mem hx
  exact owned_mem.2 ⟨x, nthOwn_mem hi, hxb⟩)⟩
/-- The rows of a family become facts. -/
theorem Seals.fam {F : Own} {os : List Own} {fs : List Fact} (pos : Nat) (h : nthOwn os pos = some F) (hs : ∀ i, i < F.m → isSl (F.v i)) :
    Seals os fs (dropOwn os pos) (((List.range F.m).map fun i => (F.v i, .sl F.size (F.n i) (F.e i))) ++ fs) := by
  intro G w hw
  have hd := hw.drop pos
  refine ⟨hd.low, hd.size, hd.below, hd.apart, hd.own, fun x hx => ?_⟩
  rcases List.mem_append.1 hx with hx | hx
  · obtain ⟨i, hi, rfl⟩ := List.mem_map.1 hx
    rw [List.mem_range] at hi
    obtain ⟨a, m, c, hv⟩ := hs i hi
    simp only
    rcases hw.own _ (nthOwn_mem h) i hi with ⟨h1, h2⟩ | ⟨r, cap, h1, h2⟩ | ⟨r, h1, _⟩ | ⟨_, _, _, _, _, _, ⟨r, _, _, h1, _⟩ | ⟨r, _, _, _, _, _, _, h1, _⟩⟩
    rotate_right
    · rw [hv] at h1; simp at h1
    rotate_right
    · rw [hv] at h1; simp at h1
    · rw [h1, h2]
      exact Knw.nil (os := dropOwn os pos) (fs := fs) F.size (F.e i) G w hd
    · have hhas : F.has r := ⟨i, hi, by rw [h1]; rfl⟩
      rw [h1]
      obtain ⟨b1, b2, b3, cur, t, b4, b5, b6⟩ := h2
      refine ⟨[.slice (some ⟨r, 0, none⟩) (F.n i) cap], ⟨_, cap, rfl, b2, b3, fun hn => by simp at hn, fun b hb _ => by simp at hb; subst hb; rfl, fun j hj => ?_⟩, rfl⟩
      obtain ⟨cs, c1, c2, c3⟩ := b6 j hj
      refine ⟨⟨r, 0, none⟩, cs, rfl, c1.mono (fun _ _ => rfl) (fun b hb => good_sub hb), c2, fun q hq => ⟨good_drop hw h hhas, ?_⟩⟩
      rw [← c3 q (by omega)]; simp [World.cell?, b4]
    · rw [hv] at h1; simp at h1
  · exact hd.facts x hx
/-- A slice of one's own over values that are known becomes a fact. -/
theorem Seals.over {os : List Own} {fs : List Fact} (pos : Nat) {v : Value} {n : Nat} {vs : Nat → Value} {D : Nat → Dat} (h : nthOwn os pos = some (own1 v 1 n fun i => .one (vs i))) (hs : isSl v)
    (hk : ∀ i, i < n → (vs i, D i) ∈ fs ∧ (D i).flat = true) : Seals os fs (dropOwn os pos) ((v, .sl 1 n D) :: fs) := by
  intro G w hw
  have hd := hw.drop pos
  refine hd.put ?_
  obtain ⟨a, m, c, rfl⟩ := hs
  rcases hw.own _ (nthOwn_mem h) 0 Nat.zero_lt_one with ⟨h1, h2⟩ | ⟨r, cap, h1, h2⟩ | ⟨r, h1, _⟩ | ⟨_, _, _, _, _, _, ⟨r, _, _, h1, _⟩ | ⟨r, _, _, _, _, _, _, h1, _⟩⟩
  rotate_right
  · simp [own1] at h1
  rotate_right
  · simp [own1] at h1
  · simp only [own1] at h1 h2
    rw [h1, h2]
    exact Knw.nil (os := dropOwn os pos) (fs := fs) 1 D G w hd
  · have hhas : (own1 (.slice a m c) 1 n fun i => .one (vs i)).has r := ⟨0, Nat.zero_lt_one, by rw [h1]; rfl⟩
    simp only [own1] at h1 h2
    rw [h1]
    obtain ⟨b1, b2, b3, cur, t, b4, b5, b6⟩ := h2
    refine ⟨[.slice (some ⟨r, 0, none⟩) n cap], ⟨_, cap, rfl, b2, b3, fun hn => by simp at hn, fun b hb _ => by simp at hb; subst hb; rfl, fun i hi => ?_⟩, rfl⟩
    obtain ⟨cs, ⟨rfl, c1⟩, c2, c3⟩ := b6 i hi
    obtain ⟨hm, hf⟩ := hk i hi
    obtain ⟨cs', k1, k2⟩ := hd.facts _ hm
    obtain ⟨u, rfl, _, k3⟩ := RdC.single hf k1
    rw [k3] at k2
    simp only at k2
    refine ⟨⟨r, 0, none⟩, [vs i], rfl, by rw [k2]; exact k1, rfl, fun q hq => ⟨good_drop hw h hhas, ?_⟩⟩
    rw [← c3 q (by simpa using hq)]; simp [World.cell?, b4]
  · simp [own1] at h1
/-- A slice over a family of rows becomes a fact. -/
theorem Seals.rows {F : Own} {v : Value} {os : List Own} {fs : List Fact} (hv : isSl v) (hs : ∀ i, i < F.m → isSl (F.v i)) :
    Seals (F :: own1 v 1 F.m (fun i => .one (F.v i)) :: os) fs os ((v, .sl 1 F.m fun i => .sl F.size (F.n i) (F.e i)) :: fs) := by
  refine Seals.trans (Seals.fam (os := F :: own1 v 1 F.m (fun i => .one (F.v i)) :: os) 0 rfl hs) (Seals.trans (Seals.over (os := own1 v 1 F.m (fun i => .one (F.v i)) :: os) (D := fun i => .sl F.size (F.n i) (F.e i)) 0 rfl hv fun i hi => ⟨?_, rfl⟩) (Seals.sub fun x hx => ?_))
  · exact List.mem_append.2 (.inl (List.mem_map.2 ⟨i, List.mem_range.2 hi, rfl⟩))
  · rcases List.mem_cons.1 hx with rfl | hx
    · exact .head _
    · exact .tail _ (List.mem_append.2 (.inr hx))
end Go.Proofs.Ytfkeohlpcjpkbaa

namespace Go.Proofs.Ytfkeohlpcjpkbaa
open Go.RowKit
theorem load_own_one {P : Program} {t : TypeId} {os : List Own} {fs : List Fact} {K : Cont} [ht : TOne P t] (pos i : Nat) {o : Own} (h : nthOwn os pos = some o) (hi : i < o.m) (j : Nat) {k : Nat} (hk : k = j * o.size)
    (hj : j < o.n i) {u : Value} (hd : o.e i j = .one u) (k' : K u os fs) : LoadK P t (eptr (o.v i) k) os fs K := by
  refine ⟨fun G w hw => ?_⟩
  have hov := hw.own o (nthOwn_mem h) i hi
  obtain ⟨r, cap, hr⟩ := hov.row (by omega)
  obtain ⟨cs, g1, g2, g3⟩ := hr.row.cellsAt hj
  have g1' : RdC (Good G.A os w) w (.one u) cs := hd ▸ g1
  have hp : pack (.one u) cs = u := by simp [pack, g1'.1]
  rw [hr.ptr k]
  refine ⟨u, fs, fun w' hb => val_run ?_, k', hw⟩
  have := loadAt_run (P := P) (t := t) (w := w') (r := r) (o := k) (d := .one u) ht g1' fun x hx => by
    rw [hk]; exact g3 w' (hb.block r (hov.blk hr.blk).2) x hx
  rw [hp] at this
  exact this
theorem load_one_elem {P : Program} {t : TypeId} {v : Value} {size n : Nat} {e : Nat → Dat} {os : List Own} {fs : List Fact} {K : Cont} [ht : TOne P t] (pos : Nat) (h : nthOwn os pos = some (own1 v size n e)) (j : Nat)
    (hj : j < n) {u : Value} (hd : e j = .one u) (k' : K u os fs) : LoadK P t (eptr v (j * size)) os fs K :=
  load_own_one (o := own1 v size n e) pos 0 h Nat.zero_lt_one j rfl hj hd k'
theorem box_fact {P : Program} {t : TypeId} {v : Value} {d : Dat} {os : List Own} {fs : List Fact} {K : Cont} (hr : Reads os fs v d) (k : ∀ p, K p os ((p, .ptr d) :: fs)) : BoxK P t v os fs K :=
  ⟨Grw.sealed (box_rule hr (K := fun u os' fs' => ∃ os'' fs'', Seals os' fs' os'' fs'' ∧ K u os'' fs'') fun p hp => ⟨_, _, Seals.box (os := own1 p d.cells 1 (fun _ => d) :: os) 0 rfl hp rfl, k p⟩).out⟩
/-- What is owned, said otherwise: other places of a family. -/
theorem Seals.re {os : List Own} {fs : List Fact} (pos : Nat) {o o' : Own} (h : nthOwn os pos = some o) (s : Nat → Nat) (hs : o'.size = o.size)
    (hv : ∀ i, i < o'.m → s i < o.m ∧ o'.v i = o.v (s i) ∧ o'.n i = o.n (s i) ∧ ∀ j, j < o.n (s i) → o'.e i j = o.e (s i) j) (hinj : ∀ i j, i < o'.m → j < o'.m → s i = s j → i = j) (hz : 0 < o.size := by exact Nat.zero_lt_succ _) :
    Seals os fs (setOwn os pos o') fs := by
  intro G w hw
  have key : ∀ {os : List Own}, Apart os → o ∈ os → ∀ i j b, i < o.m → j < o.m → vblk (o.v i) = some b → vblk (o.v j) = some b → i = j := by
    intro os
    induction os with
    | nil => intro _ hm; simp at hm
    | cons z r ih =>
      intro hA hm
      rcases List.mem_cons.1 hm with rfl | hm
      · exact hA.1
      · exact ih hA.2.2 hm
  refine hw.step h rfl rfl rfl (Nat.le_refl _) (fun _ _ _ => rfl) (fun b ⟨i, hi, hb⟩ => .inl ⟨s i, (hv i hi).1, by rw [← (hv i hi).2.1]; exact hb⟩) (fun i j b hi hj h1 h2 => ?_) fun mono i hi => ?_
  · rw [(hv i hi).2.1] at h1
    rw [(hv j hj).2.1] at h2
    exact hinj i j hi hj (key hw.apart (nthOwn_mem h) _ _ b (hv i hi).1 (hv j hj).1 h1 h2)
  · obtain ⟨q1, q2, q3, q4⟩ := hv i hi
    rw [q2, q3, hs]
    have row : ∀ {r cap n}, n ≤ o.n (s i) → OwnRow (Good G.A os w) G.B w r o.size n cap (o.e (s i)) → OwnRow (Good G.A (setOwn os pos o') w) G.B w r o.size n cap (o'.e i) := fun hn ⟨b1, b2, b3, cur, t, b4, b5, b6⟩ =>
      ⟨b1, b2, b3, cur, t, b4, b5, fun x hx => let ⟨cs, c1, c2⟩ := b6 x hx; ⟨cs, by rw [q4 x (by omega)]; exact mono _ _ c1, c2⟩⟩
    rcases hw.own _ (nthOwn_mem h) (s i) q1 with h1 | ⟨r, cap, h1, h2⟩ | ⟨r, h1, h2, h3⟩ | ⟨_, h1, _⟩
    · exact .inl h1
    · exact .inr (.inl ⟨r, cap, h1, row (Nat.le_refl _) h2⟩)
    · exact .inr (.inr (.inl ⟨r, h1, h2, row (by omega) h3⟩))
    · omega
/-- An element of a row of a family is written. -/
theorem store_fam {P : Program} {ty : TypeId} {x : Value} {d : Dat} {os : List Own} {fs : List Fact} {K : Cont} (pos i : Nat) {o : Own} (o' : Own) (h : nthOwn os pos = some o) (hi : i < o.m) (j : Nat)
    (hj : j < o.n i) (hd : d.cells = o.size) (ht : (P.info? ty).map (·.size) = some o.size) (hx : Reads os fs x d) (hm : o'.m = o.m) (hs : o'.size = o.size) (hv : ∀ a, a < o.m → o'.v a = o.v a ∧ o'.n a = o.n a ∧ ∀ b, b < o.n a → o'.e a b = if a = i ∧ b = j then d else o.e a b)
    (k' : K undef (setOwn os pos o') fs) : StoreK P ty (eptr (o.v i) (j * o.size)) x os fs K := by
  have h1 := store_own (P := P) (ty := ty) (x := x) (d := d) (K := fun u os' fs' => ∃ os'' fs'', Seals os' fs' os'' fs'' ∧ K u os'' fs'') pos i h hi j rfl hj hd ht hx
  refine ⟨Dyn.sealed (h1 ⟨_, _, ?_, k'⟩).out⟩
  have h2 := Seals.re (hz := hd ▸ Dat.cells_pos _) (os := setOwn os pos { o with e := fun y => if y = i then upd (o.e i) j d else o.e y }) (fs := fs) (o' := o') pos (nth_set h) (fun a => a) hs (fun a ha => ?_) fun _ _ _ _ e => e
  · rw [set_set] at h2; exact h2
  · rw [hm] at ha
    obtain ⟨g1, g2, g3⟩ := hv a ha
    refine ⟨ha, g1, g2, fun b hb => ?_⟩
    rw [g3 b hb]
    simp only
    by_cases hai : a = i
    · subst hai
      simp only [if_true, upd]
      by_cases hbj : b = j
      · simp [hbj]
      · simp [hbj]
    · simp [hai]
theorem CallK.pre {P : Program} {d : Bool} {fv : Value} {args : List Value} {os os' : List Own} {fs fs' : List Fact} {K : Cont} (hs : Seals os fs os' fs') (h : CallK P d fv args os' fs' K) : CallK P d fv args os fs K :=
  ⟨fun G w hw => h.out G w (hs G w hw), fun hd G w hw => h.grw hd G w (hs G w hw)⟩
-- zed, over numbers as they are told.
theorem zMulZ (v w : Value) (x y : Int) (a b : Nat) (hx : sz x a) (hy : sz y b) (ha : a ≤ 137438953472) (hb : b ≤ 137438953472) :
    Meets Try.prog 52 [v, w] [(v, zd x), (w, zd y)] (fun r os fs => os = [] ∧ fs = [(r, zd (x * y))]) := by
  have h := zmul_meets v w (decide (x < 0)) (decide (y < 0)) (lims x.natAbs) (lims y.natAbs) (Lim_lims _) (Lim_lims _) (Nat.le_trans hx.len ha) (Nat.le_trans hy.len hb)
  rw [iv_zd, iv_zd] at h
  exact h
theorem zMulJ (v w : Value) (x y : Bool × List Nat) (hx : Lim x.2) (lx : x.2.length ≤ 137438953472) (hy : Lim y.2) (ly : y.2.length ≤ 137438953472) :
    Meets Try.prog 52 [v, w] [(v, J x), (w, J y)] (fun r os fs => os = [] ∧ fs = [(r, zd (jv x * jv y))]) := zmul_meets v w x.1 y.1 x.2 y.2 hx hy lx ly
theorem zAddZ (v w : Value) (x y : Int) (a b : Nat) (hx : sz x a) (hy : sz y b) (ha : a ≤ 137438953472) (hb : b ≤ 137438953472) :
    Meets Try.prog 51 [v, w] [(v, zd x), (w, zd y)] (fun r os fs => os = [] ∧ fs = [(r, zd (x + y))]) := by
  have h := zadd_meets v w (decide (x < 0)) (decide (y < 0)) (lims x.natAbs) (lims y.natAbs) (Lim_lims _) (Lim_lims _) (Nat.le_trans hx.len ha) (Nat.le_trans hy.len hb)
  rw [iv_zd, iv_zd] at h
  exact h
theorem zNormZ (v : Value) (x : Int) (e : Nat) (hx : sz x e) (he : e ≤ 137438953472) :
    Meets Try.prog 62 [v] [(v, zd x)] (fun r os fs => os = [] ∧ fs = [(r, zd x)]) := by
  have h := znorm_meets v (decide (x < 0)) (lims x.natAbs) (Lim_lims _) (Nat.le_trans hx.len (by omega))
  rw [iv_zd] at h
  exact h
theorem zSignZ (v : Value) (x : Int) (e : Nat) (hx : sz x e) (he : e ≤ 137438953472) :
    Meets Try.prog 78 [v] [(v, zd x)] (fun r os fs => os = [] ∧ fs = [] ∧ r = .int .i64 x.sign) := by
  have h := zsign_meets v (decide (x < 0)) (lims x.natAbs) (Lim_lims _) (Nat.le_trans hx.len he)
  rw [iv_zd] at h
  exact h
theorem zDivModZ (v w : Value) (x y : Int) (a b : Nat) (hx : sz x a) (hy : sz y b) (ha : a ≤ 137438953472) (hb : b ≤ 137438953472) (h0 : y ≠ 0) :
    Meets Try.prog 76 [v, w] [(v, zd x), (w, zd y)] (fun r os fs => os = [] ∧ ∃ q m, r = .tuple #[q, m, .bool true] ∧ fs = [(q, zd (x / y)), (m, zd (x % y))]) := by
  have h := zdivmod_meets v w (decide (x < 0)) (decide (y < 0)) (lims x.natAbs) (lims y.natAbs) (Lim_lims _) (Lim_lims _) (Nat.le_trans hx.len ha) (Nat.le_trans hy.len hb) (by rw [nv_lims]; omega)
  rw [iv_zd, iv_zd] at h
  exact h
theorem sz_div {x y : Int} {e : Nat} (h : sz x e) : sz (x / y) e := Nat.lt_of_le_of_lt (Int.natAbs_ediv_le_natAbs x y) h
end Go.Proofs.Ytfkeohlpcjpkbaa

namespace Go.Proofs.Ytfkeohlpcjpkbaa
open Go.RowKit
/-- Rows of whole numbers of one's own. -/
def famO (vs : Nat → Value) (R C : Nat) (x : Mx) : Own := ⟨R, vs, 2, fun _ => C, fun i k => zd (x i k)⟩
def matL (R C : Nat) (x : Mx) : List (List Int) := (List.range R).map fun i => (List.range C).map fun k => x i k
/-- What stands over them. -/
def outer (v : Value) (R : Nat) (vs : Nat → Value) : Own := own1 v 1 R fun i => .one (vs i)
theorem isSl.one {v : Value} (h : isSl v) : v.oneCell' = true := by obtain ⟨a, n, c, rfl⟩ := h; rfl
theorem Seals.none {os : List Own} {fs : List Fact} (F : Own) (h : F.m = 0) : Seals os fs (F :: os) fs := by
  intro G w hw
  have has : ∀ b, ¬ F.has b := fun b ⟨i, hi, _⟩ => by omega
  have own : ∀ b, owned (F :: os) b ↔ owned os b := fun b => by simp [owned, has b]
  have good : ∀ b, Good G.A os w b → Good G.A (F :: os) w b := fun b ⟨g1, g2, g3⟩ => ⟨g1, g2, fun h => g3 ((own b).1 h)⟩
  have agree : Agree (Good G.A os w) w w := fun _ _ => rfl
  refine ⟨hw.low, hw.size, hw.below, ⟨fun i j b hi _ _ _ => by omega, fun b hb => absurd hb (has b), hw.apart⟩, fun o ho i hi => ?_, hw.facts.mono agree good⟩
  rcases List.mem_cons.1 ho with rfl | ho
  · omega
  · exact (hw.own o ho i hi).mono agree good (fun _ _ => rfl)
theorem matL_len (R C : Nat) (x : Mx) : (matL R C x).length = R := by unfold matL; simp
theorem range_cn {C k : Nat} (g : Nat → Int) (h : k < C) : (((List.range C).map fun k => g k).map cn).getD k z0 = cn (g k) := by
  simp [List.getD_eq_getElem?_getD, h]
/-- Rows of one's own become a fact. -/
theorem Seals.made {v : Value} {vs : Nat → Value} {R C : Nat} {x : Mx} {os : List Own} {fs : List Fact} (hv : isSl v) (hs : ∀ i, i < R → isSl (vs i)) :
    Seals (famO vs R C x :: outer v R vs :: os) fs os ((v, wd (matL R C x)) :: fs) := by
  let F' : Own := ⟨R, vs, 2, fun _ => C, fun i k => J ((((List.range C).map fun k => x i k).map cn).getD k z0)⟩
  have h1 : Seals (famO vs R C x :: outer v R vs :: os) fs (F' :: outer v R vs :: os) fs :=
    Seals.re (os := famO vs R C x :: outer v R vs :: os) 0 rfl (fun i => i) rfl (fun i hi => ⟨hi, rfl, rfl, fun k hk => by
      show J _ = zd _
      have hk' : k < C := hk
      rw [range_cn (fun k => x i k) hk']; rfl⟩) (fun _ _ _ _ e => e)
  refine Seals.trans h1 (Seals.trans (Seals.rows (F := F') hv hs) (Seals.cons (Knw.cast (Knw.sl_cong (e' := fun i => V (((matL R C x).map (·.map cn)).getD i [])) (Knw.fact (List.Mem.head _)) fun i hi => ?_) ?_) (Seals.sub fun F hF => .tail _ hF)))
  · have e : ((matL R C x).map (·.map cn)).getD i [] = ((List.range C).map fun k => x i k).map cn := by
      have hi' : i < R := hi
      unfold matL; simp [List.getD_eq_getElem?_getD, hi']
    rw [e]
    unfold V LD
    rw [List.length_map, List.length_map, List.length_range]
  · unfold wd W LD
    rw [List.length_map, matL_len]
end Go.Proofs.Ytfkeohlpcjpkbaa

namespace Go.Proofs.Ytfkeohlpcjpkbaa
structure Bs where
  x : Mx
  last : Int
  odd : Bool
  step : Nat
/-- The first place from p on, of n, at which column c is not 0; R if there is none. -/
def pfind (x : Mx) (R c : Nat) : Nat → Nat → Nat
  | 0, _ => R
  | n + 1, p => if x p c = 0 then pfind x R c n (p + 1) else p
def swp (x : Mx) (s p : Nat) : Mx := fun i k => x (if i = s then p else if i = p then s else i) k
def elim (x : Mx) (s c : Nat) (last : Int) : Mx := fun i k => if i ≤ s then x i k else if k < c then x i k else if k = c then 0 else (x s c * x i k - x i c * x s k) / last
def bstep (R : Nat) (st : Bs) (c : Nat) : Bs :=
  if pfind st.x R c (R - st.step) st.step = R then st
  else ⟨elim (swp st.x st.step (pfind st.x R c (R - st.step) st.step)) st.step c st.last, swp st.x st.step (pfind st.x R c (R - st.step) st.step) st.step c,
    if pfind st.x R c (R - st.step) st.step = st.step then st.odd else !st.odd, st.step + 1⟩
/-- n columns from c on. -/
def brun (R : Nat) : Nat → Nat → Bs → Bs
  | 0, _, st => st
  | n + 1, c, st => if st.step < R then brun R n (c + 1) (bstep R st c) else st
theorem pfind_spec (x : Mx) (R c : Nat) : ∀ (n p : Nat), p + n = R → (pfind x R c n p = R ∧ ∀ i, p ≤ i → i < R → x i c = 0) ∨ (p ≤ pfind x R c n p ∧ pfind x R c n p < R ∧ x (pfind x R c n p) c ≠ 0)
  | 0, p, h => .inl ⟨rfl, fun i h1 h2 => by omega⟩
  | n + 1, p, h => by
    unfold pfind
    split
    · rename_i h0
      rcases pfind_spec x R c n (p + 1) (by omega) with ⟨h1, h2⟩ | ⟨h1, h2, h3⟩
      · refine .inl ⟨h1, fun i hi hR => ?_⟩
        by_cases e : i = p
        · rw [e, h0]
        · exact h2 i (by omega) hR
      · exact .inr ⟨by omega, h2, h3⟩
    · rename_i h0
      exact .inr ⟨Nat.le_refl _, by omega, h0⟩
def sub' (A : Mx) (rl cl : List Nat) : Mx := fun i j => A (rl.getD i 0) (cl.getD j 0)
/-- What a row of more is developed into. -/
def wt (A : Mx) (s x : Nat) (rl cl : List Nat) : Nat → Int := fun r => sg (r + 1) * det s (cut (sub' A (x :: rl) (0 :: cl)) (r + 1) 0)
theorem bord (A : Mx) (s x k : Nat) (rl cl : List Nat) :
    det (s + 1) (sub' A (x :: rl) (k :: cl)) = A x k * det s (sub' A rl cl) + isum (fun r => wt A s x rl cl r * A (rl.getD r 0) k) s := by
  rw [det, isum_front]
  congr 1
  · simp [sg, sub']; rfl
  · refine isum_congr fun r _ => ?_
    have : cut (sub' A (x :: rl) (k :: cl)) (r + 1) 0 = cut (sub' A (x :: rl) (0 :: cl)) (r + 1) 0 := by
      funext a b; simp [cut, sub', sk_zero]
    rw [this]
    simp only [wt, sub', List.getD_cons_succ, List.getD_cons_zero]
    grind
theorem bord_zero (A : Mx) {s x k j : Nat} (rl cl : List Nat) (hj : j < s) (h : cl.getD j 0 = k) : det (s + 1) (sub' A (x :: rl) (k :: cl)) = 0 := by
  rw [← det_tr]
  refine (det_form (s + 1)).eqRows (r := 0) (s := j + 1) (by omega) (by omega) (by omega) fun i _ => ?_
  simp only [tp, sub', List.getD_cons_succ, List.getD_cons_zero, h]
theorem det_row0 {n : Nat} (A : Mx) (h : ∀ j, 0 < j → j < n + 1 → A 0 j = 0) : det (n + 1) A = A 0 0 * det n (cut A 0 0) := by
  rw [det_row A (i := 0) (by omega), isum_front, isum_zero fun j hj => by rw [h (j + 1) (by omega) (by omega)]; simp]
  simp [sg]
theorem det_row01 {n : Nat} (A : Mx) (h : ∀ j, 1 < j → j < n + 2 → A 0 j = 0) : det (n + 2) A = A 0 0 * det (n + 1) (cut A 0 0) - A 0 1 * det (n + 1) (cut A 0 1) := by
  rw [det_row A (i := 0) (by omega), isum_front, isum_front, isum_zero fun j hj => by rw [h (j + 1 + 1) (by omega) (by omega)]; simp]
  simp [sg]; omega
/-- Sylvester: two rows and two columns more. -/
theorem sylv (A : Mx) (s x y c k : Nat) (rl cl : List Nat) (hd : det s (sub' A rl cl) ≠ 0) :
    det s (sub' A rl cl) * det (s + 2) (sub' A (y :: x :: rl) (k :: c :: cl)) =
      det (s + 1) (sub' A (x :: rl) (c :: cl)) * det (s + 1) (sub' A (y :: rl) (k :: cl)) - det (s + 1) (sub' A (y :: rl) (c :: cl)) * det (s + 1) (sub' A (x :: rl) (k :: cl)) := by
  let d := det s (sub' A rl cl)
  let cs := k :: c :: cl
  let n0 := sub' A (y :: x :: rl) cs
  let My : Nat → Int := fun j => det (s + 1) (sub' A (y :: rl) (cs.getD j 0 :: cl))
  let Mx' : Nat → Int := fun j => det (s + 1) (sub' A (x :: rl) (cs.getD j 0 :: cl))
  have hF := det_form (s + 2)
  -- row 1
  have e1 : det (s + 2) (rw' n0 1 Mx') = d * det (s + 2) n0 := by
    have h1 := hF.smul n0 (r := 1) (by omega) d (n0 1)
    rw [rw_self] at h1
    rw [← h1]
    have h2 := hF.addRows (A := n0) (r := 1) (by omega) (wt A s x rl cl) (fun r => r + 2) s (fun r hr => ⟨by omega, by omega⟩) (fun j => d * n0 1 j)
    rw [← h2]
    refine det_congr fun i j _ _ => ?_
    unfold rw'
    split
    · show Mx' j = _
      simp only [Mx']
      rw [bord]
      simp only [n0, sub', List.getD_cons_succ, List.getD_cons_zero, d, cs]
      rw [Int.mul_comm]
    · rfl
  have e2 : det (s + 2) (rw' (rw' n0 1 Mx') 0 My) = d * (d * det (s + 2) n0) := by
    rw [← e1]
    have h1 := hF.smul (rw' n0 1 Mx') (r := 0) (by omega) d (n0 0)
    have e0 : rw' (rw' n0 1 Mx') 0 (n0 0) = rw' n0 1 Mx' := by
      funext i j; unfold rw'; split
      · rename_i h; rw [h, if_neg (by omega)]
      · rfl
    rw [e0] at h1
    rw [← h1]
    have h2 := hF.addRows (A := rw' n0 1 Mx') (r := 0) (by omega) (wt A s y rl cl) (fun r => r + 2) s (fun r hr => ⟨by omega, by omega⟩) (fun j => d * n0 0 j)
    rw [← h2]
    refine det_congr fun i j _ _ => ?_
    unfold rw'
    split
    · show My j = _
      simp only [My]
      rw [bord]
      have : ∀ r, ¬ r + 2 = 1 := fun r => by omega
      simp only [n0, sub', List.getD_cons_succ, List.getD_cons_zero, d, cs, if_neg (this _)]
      rw [Int.mul_comm]
    · rfl
  have z : ∀ w j, 1 < j → j < s + 2 → det (s + 1) (sub' A (w :: rl) (cs.getD j 0 :: cl)) = 0 := fun w j h1 h2 => by
    obtain ⟨j, rfl⟩ : ∃ j', j = j' + 2 := ⟨j - 2, by omega⟩
    exact bord_zero A rl cl (j := j) (by omega) (by simp [cs])
  have e3 : det (s + 2) (rw' (rw' n0 1 Mx') 0 My) = My 0 * (Mx' 1 * d) - My 1 * (Mx' 0 * d) := by
    rw [det_row01 _ fun j h1 h2 => by show (if 0 = 0 then My j else _) = 0; rw [if_pos rfl]; exact z y j h1 h2]
    have f0 : rw' (rw' n0 1 Mx') 0 My 0 0 = My 0 := if_pos rfl
    have f1 : rw' (rw' n0 1 Mx') 0 My 0 1 = My 1 := if_pos rfl
    rw [f0, f1]
    congr 2
    · rw [det_row0 _ fun j h1 h2 => ?_]
      · congr 1
      · simp only [cut, sk_zero, rw']
        exact z x (j + 1) (by omega) (by omega)
    · rw [det_row0 _ fun j h1 h2 => ?_]
      · congr 1
      · have e : sk 1 j = j + 1 := if_neg (by omega)
        simp only [cut, sk_zero, rw', e]
        exact z x (j + 1) (by omega) (by omega)
  rw [e2] at e3
  have e4 : d * (d * det (s + 2) n0) = d * (Mx' 1 * My 0 - My 1 * Mx' 0) := by rw [e3]; grind
  exact Int.eq_of_mul_eq_mul_left hd e4
/-- What holds at column c. -/
structure BInv (A : Mx) (R C : Nat) (st : Bs) (c : Nat) (rl cl : List Nat) (p : Nat → Nat) : Prop where
  stepR : st.step ≤ R
  into : ∀ i, i < R → p i < R
  onto : ∀ i, i < R → ∃ j, j < R ∧ p j = i
  rows : ∀ j, j < st.step → rl.getD j 0 = p (st.step - 1 - j)
  cols : ∀ j, j < st.step → cl.getD j 0 < c
  down : ∀ j, j + 1 < st.step → cl.getD (j + 1) 0 < cl.getD j 0
  last : st.last = det st.step (sub' A rl cl)
  ne : st.last ≠ 0
  val : ∀ i k, st.step ≤ i → i < R → k < C → st.x i k = det (st.step + 1) (sub' A (p i :: rl) (k :: cl))
  zero : ∀ i k, st.step ≤ i → i < R → k < c → k < C → st.x i k = 0
  sign : det R (fun i j => A (p i) j) = (if st.odd then -1 else 1) * det R A
theorem BInv.start (A : Mx) (R C : Nat) : BInv A R C ⟨A, 1, false, 0⟩ 0 [] [] (fun i => i) :=
  ⟨Nat.zero_le _, fun _ h => h, fun i h => ⟨i, h, rfl⟩, fun j h => absurd h (Nat.not_lt_zero _), fun j h => absurd h (Nat.not_lt_zero _), fun j h => absurd h (Nat.not_lt_zero _), rfl, by simp,
    fun i k _ _ _ => by simp [det, isum, sg, sub'], fun i k _ _ h => absurd h (Nat.not_lt_zero _), by simp⟩
theorem BInv.step {A : Mx} {R C : Nat} {st : Bs} {c : Nat} {rl cl : List Nat} {p : Nat → Nat} (h : BInv A R C st c rl cl p) (hs : st.step < R) (hc : c < C) :
    ∃ rl' cl' p', BInv A R C (bstep R st c) (c + 1) rl' cl' p' := by
  obtain ⟨x, last, odd, s⟩ := st
  simp only at hs
  have hv := h.val
  have hz := h.zero
  have hlast := h.last
  simp only at hv hz hlast
  unfold bstep
  rcases pfind_spec x R c (R - s) s (by omega) with ⟨h1, h2⟩ | ⟨h1, h2, h3⟩
  · simp only [h1, if_true]
    refine ⟨rl, cl, p, h.stepR, h.into, h.onto, h.rows, fun j hj => Nat.lt_succ_of_lt (h.cols j hj), h.down, h.last, h.ne, h.val, fun i k hi hR hk hC => ?_, h.sign⟩
    by_cases e : k = c
    · subst e; exact h2 i hi hR
    · exact hz i k hi hR (by omega) hC
  · generalize pfind x R c (R - s) s = q at h1 h2 h3
    simp only [if_neg (Nat.ne_of_lt h2)]
    let t : Nat → Nat := fun i => if i = s then q else if i = q then s else i
    have tt : ∀ i, t (t i) = i := fun i => by simp only [t]; split <;> split <;> (try split) <;> omega
    have tR : ∀ i, i < R → t i < R := fun i hi => by simp only [t]; split <;> (try split) <;> omega
    have ts : ∀ i, s ≤ i → s ≤ t i := fun i hi => by simp only [t]; split <;> (try split) <;> omega
    have tl : ∀ i, i < s → t i = i := fun i hi => by simp only [t]; rw [if_neg (by omega), if_neg (by omega)]
    have hy : ∀ i k, swp x s q i k = x (t i) k := fun _ _ => rfl
    have hts : t s = q := if_pos rfl
    have hv' : ∀ i k, s ≤ i → i < R → k < C → swp x s q i k = det (s + 1) (sub' A (p (t i) :: rl) (k :: cl)) := fun i k h1 h2 h3 => by rw [hy]; exact hv _ _ (ts i h1) (tR i h2) h3
    have hz' : ∀ i k, s ≤ i → i < R → k < c → swp x s q i k = 0 := fun i k h1 h2 h3 => by rw [hy]; exact hz _ _ (ts i h1) (tR i h2) h3 (by omega)
    have hd : swp x s q s c = det (s + 1) (sub' A (p (t s) :: rl) (c :: cl)) := hv' s c (Nat.le_refl _) hs hc
    have hd0 : swp x s q s c ≠ 0 := by rw [hy, hts]; exact h3
    have hl0 : det s (sub' A rl cl) ≠ 0 := by have := h.ne; simp only at this; rwa [hlast] at this
    have hsyl : ∀ i k, s ≤ i → i < R → k < C → det s (sub' A rl cl) * det (s + 2) (sub' A (p (t i) :: p (t s) :: rl) (k :: c :: cl)) = swp x s q s c * swp x s q i k - swp x s q i c * swp x s q s k := fun i k h1 h2 h3 => by
      rw [hv' s c (Nat.le_refl _) hs hc, hv' i k h1 h2 h3, hv' i c h1 h2 hc, hv' s k (Nat.le_refl _) hs h3]
      exact sylv A s (p (t s)) (p (t i)) c k rl cl hl0
    refine ⟨p (t s) :: rl, c :: cl, fun i => p (t i), by simp only; omega, fun i hi => h.into _ (tR i hi), fun i hi => ?_, fun j hj => ?_, fun j hj => ?_, fun j hj => ?_, hd, hd0, fun i k hi hR hk => ?_, fun i k hi hR hk hC => ?_, ?_⟩
    · obtain ⟨j, hj, e⟩ := h.onto i hi
      exact ⟨t j, tR j hj, by rw [tt, e]⟩
    · simp only at hj ⊢
      cases j with
      | zero => rw [List.getD_cons_zero]; congr 2
      | succ j =>
        rw [List.getD_cons_succ]
        have := h.rows j (by simp only; omega)
        simp only at this
        rw [this, show s + 1 - 1 - (j + 1) = s - 1 - j by omega, tl _ (by omega)]
    · simp only at hj
      cases j with
      | zero => rw [List.getD_cons_zero]; omega
      | succ j => rw [List.getD_cons_succ]; have := h.cols j (by simp only; omega); omega
    · simp only at hj
      cases j with
      | zero => rw [List.getD_cons_zero, List.getD_cons_succ]; exact h.cols 0 (by simp only; omega)
      | succ j => rw [List.getD_cons_succ, List.getD_cons_succ]; exact h.down j (by simp only; omega)
    · simp only at hi ⊢
      have hsy := hsyl i k (by omega) hR hk
      unfold elim
      rw [if_neg (by omega)]
      by_cases hkc : k < c
      · rw [if_pos hkc]
        rw [hz' i k (by omega) hR hkc, hz' s k (Nat.le_refl _) hs hkc] at hsy
        rw [hz' i k (by omega) hR hkc]
        rcases Int.mul_eq_zero.1 (show det s (sub' A rl cl) * det (s + 2) (sub' A (p (t i) :: p (t s) :: rl) (k :: c :: cl)) = 0 by rw [hsy]; omega) with h4 | h4
        · exact absurd h4 hl0
        · exact h4.symm
      · rw [if_neg hkc]
        by_cases e : k = c
        · rw [if_pos e]
          exact (bord_zero A (p (t s) :: rl) (c :: cl) (j := 0) (by omega) (by rw [e]; rfl)).symm
        · rw [if_neg e, ← hsy, hlast, Int.mul_ediv_cancel_left _ hl0]
    · simp only at hi ⊢
      unfold elim
      rw [if_neg (by omega)]
      by_cases hkc : k < c
      · rw [if_pos hkc]; exact hz' i k (by omega) hR hkc
      · rw [if_neg hkc, if_pos (by omega)]
    · have hsg := h.sign
      simp only at hsg ⊢
      by_cases e : q = s
      · rw [if_pos e]
        rw [← hsg]
        refine det_congr fun i j _ _ => ?_
        have : t i = i := by simp only [t]; split <;> (try split) <;> omega
        rw [this]
      · rw [if_neg e]
        have hw := (det_form R).swap (A := fun i j => A (p i) j) (r := s) (s := q) hs h2 (fun e' => e e'.symm)
        rw [hsg] at hw
        have : det R (fun i j => A (p (t i)) j) = - ((if odd = true then -1 else 1) * det R A) := by
          rw [← hw]
          refine det_congr fun i j _ _ => ?_
          simp only [rw', t]
          by_cases h1 : i = q
          · simp [h1, e]
          · by_cases h2 : i = s
            · have : ¬ s = q := fun e' => e e'.symm
              simp [h2, this]
            · simp [h1, h2]
        rw [this]
        cases odd <;> simp
theorem BInv.run {A : Mx} {R C : Nat} : ∀ (n : Nat) {st : Bs} {c : Nat} {rl cl : List Nat} {p : Nat → Nat}, BInv A R C st c rl cl p → c + n = C →
    ∃ c' rl' cl' p', BInv A R C (brun R n c st) c' rl' cl' p' ∧ c' ≤ C ∧ ((brun R n c st).step = R ∨ c' = C)
  | 0, st, c, rl, cl, p, h, hc => ⟨c, rl, cl, p, h, by omega, .inr (by omega)⟩
  | n + 1, st, c, rl, cl, p, h, hc => by
    unfold brun
    split
    · rename_i hs
      obtain ⟨rl', cl', p', h'⟩ := h.step hs (by omega)
      exact BInv.run n h' (by omega)
    · rename_i hs
      exact ⟨c, rl, cl, p, h, by omega, .inl (by have := h.stepR; omega)⟩
def rev (n : Nat) (A : Mx) : Mx := fun i j => A (n - 1 - i) (n - 1 - j)
theorem det_rev (n : Nat) (A : Mx) : det n (rev n A) = det n A := by
  have hF : Form n (fun A => det n (rev n A)) := by
    refine ⟨fun hc => det_congr fun i j hi hj => hc _ _ (by omega) (by omega), fun A r hr a b u v => ?_, fun {A r} hr he => ?_⟩
    · have e : ∀ w, det n (rev n (rw' A r w)) = det n (rw' (rev n A) (n - 1 - r) (fun j => w (n - 1 - j))) := fun w => det_congr fun i j hi hj => by
        simp only [rev, rw']
        by_cases h : i = n - 1 - r
        · rw [if_pos h, if_pos (by omega)]
        · rw [if_neg h, if_neg (by omega)]
      rw [e, e, e]
      exact det_row_lin (rev n A) (r := n - 1 - r) (by omega) a b (fun j => u (n - 1 - j)) (fun j => v (n - 1 - j))
    · refine det_row_alt (r := n - 1 - (r + 1)) (by omega) fun j hj => ?_
      simp only [rev]
      rw [show n - 1 - (n - 1 - (r + 1)) = r + 1 by omega, show n - 1 - (n - 1 - (r + 1) + 1) = r by omega]
      exact (he _ (by omega)).symm
  have := hF.eq A
  rw [this]
  have e : det n (rev n one) = 1 := by
    rw [← det_one n]
    refine det_congr fun i j hi hj => ?_
    simp only [rev, one]
    by_cases h : i = j
    · rw [if_pos h, if_pos (by omega)]
    · rw [if_neg h, if_neg (by omega)]
  rw [e, Int.mul_one]
end Go.Proofs.Ytfkeohlpcjpkbaa

namespace Go.Proofs.Ytfkeohlpcjpkbaa
open Go.RowKit
/-- Limbs after so many columns. -/
def Eb (k : Nat) : Nat → Nat
  | 0 => k + 1
  | c + 1 => 2 * Eb k c + 1
theorem sz_elim {a b c d l : Int} {e : Nat} (ha : sz a e) (hb : sz b e) (hc : sz c e) (hd : sz d e) : sz ((a * b - c * d) / l) (2 * e + 1) := by
  refine sz_div (sz_sub ?_ ?_)
  · rw [Nat.two_mul]; exact ha.mul hb
  · rw [Nat.two_mul]; exact hc.mul hd
/-- What holds of the numbers at column c. -/
structure BSz (k R C : Nat) (st : Bs) (c : Nat) : Prop where
  x : ∀ i j, i < R → j < C → sz (st.x i j) (Eb k c)
  l : sz st.last (Eb k c)
  ne : st.last ≠ 0
/-- A matrix of rows. -/
def mx (m : List (List Int)) : Mx := fun i j => (m.getD i []).getD j 0
end Go.Proofs.Ytfkeohlpcjpkbaa

namespace Go.Proofs.Ytfkeohlpcjpkbaa
open Go.RowKit
/-- s and p changed about. -/
def ex (s p i : Nat) : Nat := if i = s then p else if i = p then s else i
theorem ex_lt {s p i R : Nat} (hs : s < R) (hp : p < R) (hi : i < R) : ex s p i < R := by unfold ex; split <;> (try split) <;> omega
theorem BSz.step {k R C : Nat} {x : Mx} {last : Int} {odd od : Bool} {s c p : Nat} (h : BSz k R C ⟨x, last, odd, s⟩ c) (hs : s < R) (hp : p < R) (hc : c < C) (h0 : swp x s p s c ≠ 0) :
    BSz k R C ⟨elim (swp x s p) s c last, swp x s p s c, od, s + 1⟩ (c + 1) := by
  have hx : ∀ i j, i < R → j < C → sz (swp x s p i j) (Eb k c) := fun i j hi hj => h.x (ex s p i) j (ex_lt hs hp hi) hj
  refine ⟨fun i j hi hj => ?_, (hx s c hs hc).mono (by simp only [Eb]; omega), h0⟩
  have hm : Eb k c ≤ Eb k (c + 1) := by simp only [Eb]; omega
  simp only [elim]
  split
  · exact (hx i j hi hj).mono hm
  · split
    · exact (hx i j hi hj).mono hm
    · split
      · exact sz_zero _
      · exact sz_elim (hx s c hs hc) (hx i j hi hj) (hx i c hi hc) (hx s j hs hj)
theorem BSz.skip {k R C : Nat} {st : Bs} {c : Nat} (h : BSz k R C st c) : BSz k R C st (c + 1) :=
  ⟨fun i j hi hj => (h.x i j hi hj).mono (by simp only [Eb]; omega), h.l.mono (by simp only [Eb]; omega), h.ne⟩
end Go.Proofs.Ytfkeohlpcjpkbaa

namespace Go.Proofs.Ytfkeohlpcjpkbaa
open Go.RowKit
end Go.Proofs.Ytfkeohlpcjpkbaa

namespace Go.Proofs.Ytfkeohlpcjpkbaa
open Go.RowKit
theorem info_n : (Try.prog.info? 3).map (fun i => (i.zero, i.size, i.bytes)) = some (some (.int .i64 0), 1, 8) := by kernel_rfl
instance tzN : TZero Try.prog 3 (.one (.int .i64 0)) := tzero info_n fun _ _ => ⟨rfl, rfl⟩
end Go.Proofs.Ytfkeohlpcjpkbaa

namespace Go.Proofs.Ytfkeohlpcjpkbaa
open Go.RowKit
theorem Knw.vd_of {os : List Own} {fs : List Fact} {v : Value} {n : Nat} {g : Nat → Int} (h : Knw os fs v (.sl 2 n fun i => J ((((List.range n).map g).map cn).getD i z0))) : Knw os fs v (vd ((List.range n).map g)) :=
  h.cast (by unfold vd V LD; simp)
end Go.Proofs.Ytfkeohlpcjpkbaa

namespace Go.Proofs.Ytfkeohlpcjpkbaa
open Go.RowKit
theorem degTo_le (l : List Int) : ∀ (n : Nat) (k : Nat), k ≤ n → (∀ j, k ≤ j → j < n → l.getD j 0 = 0) → degTo l n = degTo l k
  | 0, k, h, _ => by have : k = 0 := by omega
                     subst this; rfl
  | n + 1, k, h, hz => by
    by_cases e : k = n + 1
    · rw [e]
    · rw [degTo, if_pos (hz n (by omega) (by omega))]
      exact degTo_le l n k (by omega) fun j h1 h2 => hz j h1 (by omega)
theorem pDegree_meets (v : Value) (p : Row) (hp : Fit 137438953472 p) :
    Meets Try.prog 54 [v] [(v, V p)] (fun r os fs => os = [] ∧ fs = [] ∧ r = .int .i64 (deg (vv p))) := by
  refine meets_of_vc Try.func54 (by kernel_rfl) rfl (by kernel_rfl) (Nat.le_of_ble_eq_true rfl) ?_
  refine len_fact (by repeat (first | exact List.Mem.head _ | apply List.Mem.tail)) fun _ => ?_
  refine loop_rule (X := Nat) (fun n => ([(0, v), (3, .int .i64 (n : Nat))], [], [(v, V p)])) (fun n => n ≤ p.length ∧ ∀ j, n ≤ j → j < p.length → (vv p).getD j 0 = 0) (fun n => n) rfl ?_ ?_
  · exact again p.length ⟨Nat.le_refl _, fun j h1 h2 => by omega⟩ trivial (by repeat (first | exact trivial | refine ⟨rfl, ?_⟩ | refine ⟨i64_eq (by first | omega | (simp only; omega)), ?_⟩ | refine ⟨u64_eq (by first | omega | (simp only; omega)), ?_⟩)) (Seals.sub (by repeat (first | exact Sub.nil _ | refine Sub.cons (by repeat (first | exact List.Mem.head _ | apply List.Mem.tail)) ?_)))
  · rintro n ⟨h1, h2⟩
    refine cmp_split _ rfl (fun hn => ?_) (fun hn => ?_)
    · have hn' : n - 1 < p.length := by omega
      have hg := vv_get p (n - 1) hn'
      refine ar rfl (by first | exact ⟨by omega, by omega⟩ | (simp only [inK]; omega)) ?_
      refine index_fact (by repeat (first | exact List.Mem.head _ | apply List.Mem.tail)) (n - 1) (by omega) hn' fun a1 => ?_
      refine load_fact (d := J (p.getD (n - 1) z0)) (by repeat (first | exact List.Mem.head _ | apply List.Mem.tail)) (load_J _) fun x1 => ?_
      refine call_fn (zsign_meets x1 (p.getD (n - 1) z0).1 (p.getD (n - 1) z0).2 (hp.get _).1 (hp.get _).2) (Seals.refl _ _) (by repeat (first | exact Sub.nil _ | refine Sub.cons (by repeat (first | exact List.Mem.head _ | apply List.Mem.tail)) ?_)) ?_
      rintro _ _ _ ⟨rfl, rfl, rfl⟩
      refine cmp_split _ rfl (fun hz => ?_) (fun hz => ?_)
      · refine ar rfl (by first | exact ⟨by omega, by omega⟩ | (simp only [inK]; omega)) ?_
        refine again (n - 1) ⟨by omega, fun j h3 h4 => ?_⟩ (by simp only; omega) (by repeat (first | exact trivial | refine ⟨rfl, ?_⟩ | refine ⟨i64_eq (by first | omega | (simp only; omega)), ?_⟩ | refine ⟨u64_eq (by first | omega | (simp only; omega)), ?_⟩)) (Seals.sub (by repeat (first | exact Sub.nil _ | refine Sub.cons (by repeat (first | exact List.Mem.head _ | apply List.Mem.tail)) ?_)))
        by_cases e : j = n - 1
        · rw [e, hg]; exact Int.sign_eq_zero_iff_zero.1 hz
        · exact h2 j (by omega) h4
      · refine ar rfl (by first | exact ⟨by omega, by omega⟩ | (simp only [inK]; omega)) ?_
        refine fin ⟨rfl, rfl, ?_⟩ (Seals.nil _ _)
        have hd : degTo (vv p) p.length = degTo (vv p) n := degTo_le _ _ _ h1 h2
        have hne : (vv p).getD (n - 1) 0 ≠ 0 := by rw [hg]; exact fun e => hz (Int.sign_eq_zero_iff_zero.2 e)
        unfold deg
        rw [vv_len, hd]
        obtain ⟨n', rfl⟩ : ∃ n', n = n' + 1 := ⟨n - 1, by omega⟩
        rw [degTo, if_neg (by simpa using hne)]
        exact congrArg (Value.int .i64) (by omega)
    · have hn0 : n = 0 := by omega
      subst hn0
      refine ar rfl (by first | exact ⟨by omega, by omega⟩ | (simp only [inK]; omega)) ?_
      refine fin ⟨rfl, rfl, ?_⟩ (Seals.nil _ _)
      unfold deg
      rw [vv_len, degTo_le _ _ _ h1 h2]; rfl
end Go.Proofs.Ytfkeohlpcjpkbaa

namespace Go.Proofs.Ytfkeohlpcjpkbaa
open Go.RowKit
end Go.Proofs.Ytfkeohlpcjpkbaa

namespace Go.Proofs.Ytfkeohlpcjpkbaa
open Go.RowKit
end Go.Proofs.Ytfkeohlpcjpkbaa

namespace Go.Proofs.Ytfkeohlpcjpkbaa
open Go.RowKit
theorem get_cn (m : List (List Int)) (i : Nat) : ((m.map (·.map cn)).getD i []) = (m.getD i []).map cn := by
  by_cases h : i < m.length
  · simp [List.getD_eq_getElem?_getD, h]
  · simp [List.getD_eq_getElem?_getD, h]
/-- All numbers are of at most e limbs. -/
def szM (e : Nat) (m : List (List Int)) : Prop := ∀ r, r ∈ m → ∀ x, x ∈ r → sz x e
def szR (e : Nat) (l : List Int) : Prop := ∀ x, x ∈ l → sz x e
theorem szM.fits {e : Nat} {m : List (List Int)} (h : szM e m) : Fits e (m.map (·.map cn)) := fun r hr => by
  obtain ⟨r', hr', rfl⟩ := List.mem_map.1 hr
  exact Fit_cn fun x hx => h r' hr' x hx
-- Told matrices.
/-- Small numbers. -/
def IL (l : List Int) : Dat := .sl 1 l.length fun i => .one (.int .i64 (l.getD i 0))
theorem lit_IL {P : Program} {t e : TypeId} {os : List Own} {fs : List Fact} {K : Cont} [ht : TSl P t e 1] [he : TEl P e 1 8] {n : Nat} (l : List Int) {ps : List (Nat × Value)} (hps : ps = enumP 0 (l.map fun x => Value.int .i64 x)) (hn : n = l.length) (hl : l.length ≤ 1000) (k : ∀ v, K v os ((v, IL l) :: fs)) :
    BuildSliceK P t n ps os fs K := by
  have hr : ∀ l : List Int, ReadsAll os fs 1 (l.map fun x => Value.int .i64 x) (l.map fun x => Dat.one (.int .i64 x)) := fun l => by
    induction l with
    | nil => trivial
    | cons x l ih => exact ⟨Reads.one rfl, rfl, ih⟩
  have h1 := buildSlice_fact (P := P) (t := t) (os := os) (fs := fs) (K := fun u os' fs' => ∃ os'' fs'', Seals os' fs' os'' fs'' ∧ K u os'' fs'') (n := n) (l.map fun x => Value.int .i64 x) (l.map fun x => Dat.one (.int .i64 x)) hps (by rw [hn, List.length_map]) (by omega) (by decide) (hr l)
  refine ⟨Grw.sealed (h1 fun v => ⟨_, _, ?_, k v⟩).out⟩
  exact Seals.knw_cong hn fun i hi => by
    have hi' : i < l.length := by omega
    simp [List.getD_eq_getElem?_getD, hi']
end Go.Proofs.Ytfkeohlpcjpkbaa

namespace Go.Proofs.Ytfkeohlpcjpkbaa
-- The rank.
def at' (S : List (List Int)) (j k : Nat) : Int := (S.getD j []).getD k 0
/-- Steps: each begins where those behind it have a nought. -/
structure Steps (C : Nat) (S : List (List Int)) : Prop where
  len : ∀ s, s ∈ S → s.length = C
  lead : ∀ s, s ∈ S → lead0 s < C
  stair : ∀ i j, i < j → j < S.length → at' S j (lead0 (S.getD i [])) = 0
theorem lead0_ne {l : List Int} (h : lead0 l < l.length) : l.getD (lead0 l) 0 ≠ 0 := by
  induction l with
  | nil => simp at h
  | cons x l ih =>
    unfold lead0 at h ⊢
    by_cases hx : x = 0
    · simp only [hx, if_true] at h ⊢
      rw [List.getD_cons_succ]
      exact ih (by simpa using h)
    · simp only [hx, if_false]
      simpa using hx
theorem lead0_all {l : List Int} (h : lead0 l = l.length) (k : Nat) : l.getD k 0 = 0 := by
  induction l generalizing k with
  | nil => simp
  | cons x l ih =>
    unfold lead0 at h
    by_cases hx : x = 0
    · simp only [hx, if_true, List.length_cons] at h
      cases k with
      | zero => simpa using hx
      | succ k => rw [List.getD_cons_succ]; exact ih (by omega) k
    · simp [hx] at h
theorem at_snoc_lt {S : List (List Int)} {s : List Int} {j : Nat} (h : j < S.length) : (S ++ [s]).getD j [] = S.getD j [] := by
  simp [List.getD_eq_getElem?_getD, List.getElem?_append_left h]
theorem at_snoc_eq (S : List (List Int)) (s : List Int) : (S ++ [s]).getD S.length [] = s := by
  simp [List.getD_eq_getElem?_getD]
theorem Steps.init {C : Nat} {S : List (List Int)} {s : List Int} (h : Steps C (S ++ [s])) : Steps C S :=
  ⟨fun x hx => h.len x (by simp [hx]), fun x hx => h.lead x (by simp [hx]), fun i j hij hj => by
    have := h.stair i j hij (by simp; omega)
    unfold at' at this ⊢
    rwa [at_snoc_lt hj, at_snoc_lt (by omega)] at this⟩
theorem dep_snoc (S : List (List Int)) (s r : List Int) : dep (S ++ [s]) r = red1 s (dep S r) := by
  unfold dep; rw [List.foldl_append]; rfl
theorem dep_len (S : List (List Int)) (r : List Int) : (dep S r).length = r.length := by
  unfold dep
  induction S generalizing r with
  | nil => rfl
  | cons s S ih => rw [List.foldl_cons, ih, red1_len]
theorem dep_spec {C : Nat} (r : List Int) (hr : r.length = C) : ∀ (n : Nat) (S : List (List Int)), S.length = n → Steps C S →
    (∃ D : Int, D ≠ 0 ∧ ∃ g : Nat → Int, ∀ k, k < C → (dep S r).getD k 0 = D * r.getD k 0 - isum (fun j => g j * at' S j k) S.length) ∧ ∀ j, j < S.length → (dep S r).getD (lead0 (S.getD j [])) 0 = 0
  | 0, S, hn, _ => by
    have : S = [] := List.eq_nil_of_length_eq_zero hn
    subst this
    exact ⟨⟨1, by decide, fun _ => 0, fun k _ => by simp [dep, isum]⟩, fun j hj => by simp at hj⟩
  | n + 1, S, hn, hS => by
    obtain ⟨S', s, rfl⟩ : ∃ S' s, S = S' ++ [s] := by
      refine ⟨S.dropLast, S.getLast (by intro e; simp [e] at hn), ?_⟩
      rw [List.dropLast_concat_getLast]
    have hn' : S'.length = n := by simpa using hn
    obtain ⟨⟨D, hD, g, hg⟩, hz⟩ := dep_spec r hr n S' hn' hS.init
    have hs : s.length = C := hS.len s (by simp)
    have hl : lead0 s < C := hS.lead s (by simp)
    have hsp : s.getD (lead0 s) 0 ≠ 0 := lead0_ne (by omega)
    have hdl : (dep S' r).length = C := by rw [dep_len, hr]
    rw [dep_snoc]
    constructor
    · refine ⟨s.getD (lead0 s) 0 * D, Int.mul_ne_zero hsp hD, fun j => if j = S'.length then (dep S' r).getD (lead0 s) 0 else s.getD (lead0 s) 0 * g j, fun k hk => ?_⟩
      rw [red1_get _ _ (by omega), hg k hk, List.length_append, List.length_singleton, isum]
      have e1 : at' (S' ++ [s]) S'.length k = s.getD k 0 := by unfold at'; rw [at_snoc_eq]
      have e2 : isum (fun j => (if j = S'.length then (dep S' r).getD (lead0 s) 0 else s.getD (lead0 s) 0 * g j) * at' (S' ++ [s]) j k) S'.length = s.getD (lead0 s) 0 * isum (fun j => g j * at' S' j k) S'.length := by
        rw [← isum_mul]
        refine isum_congr fun j hj => ?_
        rw [if_neg (by omega)]
        unfold at'
        rw [at_snoc_lt hj, Int.mul_assoc]
      rw [e2, e1]
      simp only [if_true]
      grind
    · intro j hj
      rw [List.length_append, List.length_singleton] at hj
      by_cases e : j = S'.length
      · rw [e, at_snoc_eq, red1_get s (dep S' r) (k := lead0 s) (by omega)]
        grind
      · have hj' : j < S'.length := by omega
        have hlj : lead0 (S'.getD j []) < C := hS.lead _ (List.mem_append.2 (.inl (getD_mem [] hj')))
        have hst := hS.stair j S'.length hj' (by simp)
        unfold at' at hst
        rw [at_snoc_eq, at_snoc_lt hj'] at hst
        rw [at_snoc_lt hj', red1_get s (dep S' r) (k := lead0 (S'.getD j [])) (by omega), hz j hj', hst]
        simp
/-- What the first rows have come to. -/
structure RInv (C : Nat) (A : Mx) (i : Nat) (S : List (List Int)) : Prop where
  steps : Steps C S
  made : ∃ X : Mx, ∀ j k, j < S.length → k < C → at' S j k = isum (fun t => X j t * A t k) i
  told : ∀ t, t < i → ∃ d : Int, d ≠ 0 ∧ ∃ b : Nat → Int, ∀ k, k < C → d * A t k = isum (fun j => b j * at' S j k) S.length
theorem RInv.next {C : Nat} {A : Mx} {i : Nat} {S : List (List Int)} {r : List Int} (h : RInv C A i S) (hr : r.length = C) (hA : ∀ k, k < C → A i k = r.getD k 0) : RInv C A (i + 1) (rstep S r) := by
  obtain ⟨⟨D, hD, g, hg⟩, hz⟩ := dep_spec r hr S.length S rfl h.steps
  obtain ⟨X, hX⟩ := h.made
  unfold rstep
  split
  · rename_i he
    refine ⟨h.steps, ⟨fun j t => if t = i then 0 else X j t, fun j k hj hk => ?_⟩, fun t ht => ?_⟩
    · rw [hX j k hj hk, isum]
      dsimp only
      rw [if_pos rfl, Int.zero_mul, Int.add_zero]
      exact isum_congr fun t ht => by rw [if_neg (by omega)]
    · by_cases e : t = i
      · subst e
        refine ⟨D, hD, g, fun k hk => ?_⟩
        have := hg k hk
        rw [lead0_all he] at this
        rw [hA k hk]; omega
      · exact h.told t (by omega)
  · rename_i he
    have hlen : (dep S r).length = C := by rw [dep_len, hr]
    have hlead : lead0 (dep S r) < C := by have := lead0_le (dep S r); omega
    refine ⟨⟨fun s hs => ?_, fun s hs => ?_, fun a b hab hb => ?_⟩, ⟨fun j t => if j = S.length then (if t = i then D else - isum (fun l => g l * X l t) S.length) else (if t = i then 0 else X j t), fun j k hj hk => ?_⟩, fun t ht => ?_⟩
    · rcases List.mem_append.1 hs with hs | hs
      · exact h.steps.len s hs
      · rw [List.mem_singleton.1 hs, hlen]
    · rcases List.mem_append.1 hs with hs | hs
      · exact h.steps.lead s hs
      · rw [List.mem_singleton.1 hs]; exact hlead
    · rw [List.length_append, List.length_singleton] at hb
      by_cases e : b = S.length
      · unfold at'
        rw [e, at_snoc_eq, at_snoc_lt (by omega)]
        exact hz a (by omega)
      · have := h.steps.stair a b hab (by omega)
        unfold at' at this ⊢
        rwa [at_snoc_lt (by omega), at_snoc_lt (by omega)]
    · rw [List.length_append, List.length_singleton] at hj
      by_cases e : j = S.length
      · unfold at'
        rw [e, at_snoc_eq, hg k hk, isum]
        dsimp only
        rw [if_pos rfl, if_pos rfl, hA k hk]
        have e2 : isum (fun t => (if S.length = S.length then (if t = i then D else - isum (fun l => g l * X l t) S.length) else (if t = i then 0 else X S.length t)) * A t k) i = - isum (fun l => g l * at' S l k) S.length := by
          rw [← isum_neg]
          rw [isum_congr (g' := fun l => isum (fun t => - (g l * X l t * A t k)) i) (n := S.length) fun l hl => by
            rw [hX l k hl hk, isum_neg, ← isum_mul]
            congr 1
            exact isum_congr fun t _ => by grind]
          rw [isum_swap]
          refine isum_congr fun t ht => ?_
          rw [if_pos rfl, if_neg (by omega), isum_neg]
          rw [Int.neg_mul]
          congr 1
          rw [← isum_mul_right]
        rw [e2]; omega
      · have hj' : j < S.length := by omega
        unfold at'
        rw [at_snoc_lt hj']
        have := hX j k hj' hk
        unfold at' at this
        rw [this, isum]
        dsimp only
        rw [if_neg e, if_pos rfl, Int.zero_mul, Int.add_zero]
        exact isum_congr fun t ht => by rw [if_neg e, if_neg (by omega)]
    · by_cases e : t = i
      · subst e
        refine ⟨D, hD, fun j => if j = S.length then 1 else g j, fun k hk => ?_⟩
        rw [List.length_append, List.length_singleton, isum]
        dsimp only
        rw [if_pos rfl]
        have e1 : at' (S ++ [dep S r]) S.length k = (dep S r).getD k 0 := by unfold at'; rw [at_snoc_eq]
        have e2 : isum (fun j => (if j = S.length then 1 else g j) * at' (S ++ [dep S r]) j k) S.length = isum (fun j => g j * at' S j k) S.length := isum_congr fun j hj => by
          rw [if_neg (by omega)]
          unfold at'
          rw [at_snoc_lt hj]
        rw [e1, e2, hg k hk, hA k hk]; omega
      · obtain ⟨d, hd, b, hb⟩ := h.told t (by omega)
        refine ⟨d, hd, fun j => if j = S.length then 0 else b j, fun k hk => ?_⟩
        rw [hb k hk, List.length_append, List.length_singleton, isum]
        dsimp only
        rw [if_pos rfl, Int.zero_mul, Int.add_zero]
        refine isum_congr fun j hj => ?_
        rw [if_neg (by omega)]
        unfold at'
        rw [at_snoc_lt hj]
end Go.Proofs.Ytfkeohlpcjpkbaa

namespace Go.Proofs.Ytfkeohlpcjpkbaa
open Go.RowKit
instance (x : Int) (e : Nat) : Decidable (sz x e) := inferInstanceAs (Decidable (_ < _))
end Go.Proofs.Ytfkeohlpcjpkbaa

namespace Go.Proofs.Ytfkeohlpcjpkbaa
open Go.RowKit
/-- Each limb of each number is one. -/
def limM (m : List Row) : Prop := ∀ r, r ∈ m → ∀ x, x ∈ r → Lim x.2
theorem small.fits {n k c : Nat} {m : List Row} (h : small n k c m) (hl : limM m) : Fits c m := fun r hr x hx => ⟨hl r hr x hx, (h.2 r hr).2 x hx⟩
theorem small.cols {n k c : Nat} {m : List Row} (h : small n k c m) : (m.getD 0 []).length ≤ k := by
  by_cases h0 : 0 < m.length
  · exact (h.2 _ (getD_mem [] h0)).1
  · simp [List.getD_eq_getElem?_getD, show m.length = 0 by omega, List.eq_nil_of_length_eq_zero (show m.length = 0 by omega)]
end Go.Proofs.Ytfkeohlpcjpkbaa

namespace Go.Proofs.Ytfkeohlpcjpkbaa
open Go.RowKit
/-- A list that fits. -/
def limR (r : Row) : Prop := ∀ x, x ∈ r → Lim x.2
def smallR (n c : Nat) (r : Row) : Prop := r.length ≤ n ∧ ∀ x, x ∈ r → x.2.length ≤ c
instance (n c : Nat) (r : Row) : Decidable (smallR n c r) := inferInstanceAs (Decidable (_ ∧ _))
theorem smallR.fit {n c : Nat} {r : Row} (h : smallR n c r) (hl : limR r) : Fit c r := fun x hx => ⟨hl x hx, h.2 x hx⟩
end Go.Proofs.Ytfkeohlpcjpkbaa

namespace Go.Proofs.Ytfkeohlpcjpkbaa
open Go.RowKit Go.ChangeShapes Go.WideShapes Go.ChangeAt Go.Deep
section
variable {H : Type} {enc : TypeId × Value → H} {w : World} {base : Nat} {spare : Nat → Bool} {held : Bool}
theorem rd_u64 {fuel : Nat} {cs : List Value} {x : DataW H × List MemPlace} (h : DataW.trod enc Try.prog w base spare held fuel 74 cs = some x) : ∃ n : Nat, n < 18446744073709551616 ∧ cs = [.int .u64 (n : Int)] := by
  obtain ⟨n, rfl, _, hw⟩ := DataW.trod_int Try.underlying74 h
  have : 0 ≤ n ∧ n < 18446744073709551616 := by
    simp [Lit.wf, IntKind.min, IntKind.max, IntKind.signed, IntKind.bits] at hw
    omega
  exact ⟨n.toNat, by omega, by rw [Int.toNat_of_nonneg this.1]⟩
/-- A slice, if each element reads. -/
theorem rd_slice {α : Type} (f : α → Dat) (z : α) (ok : α → Prop) {t e : TypeId} {size : Nat} (ht : Try.prog.underlying t = some (.slice e)) (hc : Try.prog.cellsOf e = size) (hs : 0 < size)
    (el : ∀ n cs x, cs.length = size → DataW.trod enc Try.prog w base spare held n e cs = some x → ∃ a, ok a ∧ RdC (fun b => b < w.heap.size) w (f a) cs)
    {fuel : Nat} {cs : List Value} {x : DataW H × List MemPlace} (h : DataW.trod enc Try.prog w base spare held fuel t cs = some x) :
    ∃ l : List α, (∀ a, a ∈ l → ok a) ∧ RdC (fun b => b < w.heap.size) w (LD size f z l) cs := by
  rcases open_slice ht h with ⟨rfl, _⟩ | ⟨a, len, cap, m, n, D, Pl, rfl, hb, hl, hm, hmm, _, hx⟩
  · exact ⟨[], (fun _ h => by simp at h), rd_nil _ _ _ _⟩
  · have hle : len ≤ m := by rw [hmm]; split <;> omega
    rw [hc] at hx
    have hspot : 0 < len → a.spot = none := fun h0 => by
      obtain ⟨cs', h1, h2⟩ := hx 0 (by omega)
      obtain ⟨_, hlen, hcell⟩ := World.cells?_some h1
      have h0 := hcell 0 hs
      rw [List.getElem?_eq_getElem (by omega)] at h0
      have := World.cell?_spot h0
      simpa [Addr.add] using this
    have hel : ∀ i, ∃ y : α, i < len → ok y ∧ ∃ cs', RdC (fun b => b < w.heap.size) w (f y) cs' ∧ cs'.length = size ∧ a.spot = none ∧ CellsAt (fun b => b < w.heap.size) w a.block (a.off + i * size) cs' := by
      intro i
      by_cases hi : i < len
      · obtain ⟨cs', h1, h2⟩ := hx i (by omega)
        obtain ⟨_, hlen, hcell⟩ := World.cells?_some h1
        obtain ⟨y, hy1, hy2⟩ := el n cs' _ hlen h2
        have hsp := hspot (by omega)
        refine ⟨y, fun _ => ⟨hy1, cs', hy2, hlen, hsp, fun j hj => ?_⟩⟩
        have h0 := hcell j (by omega)
        have ha : (a.add (i * size)).add j = ⟨a.block, a.off + i * size + j, none⟩ := by
          obtain ⟨b, o, s⟩ := a
          simp only at hsp
          subst hsp
          rw [add_none, add_none]
        rw [ha] at h0
        refine ⟨?_, h0⟩
        rw [List.getElem?_eq_getElem hj] at h0
        unfold World.cell? at h0
        simp only at h0
        split at h0
        · rename_i heq
          exact (Array.getElem?_eq_some_iff.1 heq).1
        · simp at h0
      · exact ⟨z, fun h => absurd h hi⟩
    have hch := fun i => Classical.choose_spec (hel i)
    let g : Nat → α := fun i => Classical.choose (hel i)
    have hg : ∀ i, i < len → ((List.range len).map g).getD i z = g i := fun i hi => by simp [List.getD_eq_getElem?_getD, hi]
    refine ⟨(List.range len).map g, fun y hy => ?_, ?_⟩
    · obtain ⟨i, hi, rfl⟩ := List.mem_map.1 hy
      exact (hch i (List.mem_range.1 hi)).1
    · unfold LD
      rw [List.length_map, List.length_range]
      refine ⟨some a, cap, rfl, hl, hm, fun h => by simp at h, fun b hb' hpos => ?_, fun i hi => ?_⟩
      · simp only [Option.some.injEq] at hb'
        subst hb'
        obtain ⟨_, _, _, _, hsp, _⟩ := hch 0 hpos
        exact hsp
      · obtain ⟨_, cs', q1, q2, _, q3⟩ := hch i hi
        refine ⟨a, cs', rfl, ?_, q2, q3⟩
        show RdC _ _ (f (((List.range len).map g).getD i z)) cs'
        rw [hg i hi]; exact q1
theorem rd_limbs {fuel : Nat} {cs : List Value} {x : DataW H × List MemPlace} (h : DataW.trod enc Try.prog w base spare held fuel 37 cs = some x) : ∃ l : List Nat, Lim l ∧ RdC (fun b => b < w.heap.size) w (U l) cs := by
  obtain ⟨l, h1, h2⟩ := rd_slice (size := 1) (fun n : Nat => .one (.int .u64 (n : Int))) 0 (fun n => n < 18446744073709551616) Try.underlying37 (by kernel_rfl) (by decide) (fun n cs x _ h => by
    obtain ⟨n, hn, rfl⟩ := rd_u64 h
    exact ⟨n, hn, rfl, rfl⟩) h
  exact ⟨l, h1, h2⟩
theorem rd_int2 {P : Program} {t tb tl : TypeId} {f0 f1 : Field} (ht : P.underlying t = some (.struct #[f0, f1])) (h0t : f0.type = tb) (h0o : f0.offset = 0) (h1t : f1.type = tl) (h1o : f1.offset = 1)
    (cb : P.cellsOf tb = 1) (cl : P.cellsOf tl = 1) (hb : P.underlying tb = some .bool) (el : ∀ (n : Nat) (cs : List Value) (x : DataW H × List MemPlace), DataW.trod enc P w base spare held n tl cs = some x → ∃ l : List Nat, Lim l ∧ RdC (fun b => b < w.heap.size) w (U l) cs)
    {fuel : Nat} {cs : List Value} {x : DataW H × List MemPlace} (hl : cs.length = 2) (h : DataW.trod enc P w base spare held fuel t cs = some x) : ∃ y : Bool × List Nat, Lim y.2 ∧ RdC (fun b => b < w.heap.size) w (J y) cs := by
  obtain ⟨y0, y1, n, _, hlen, h0, h1⟩ := trod_struct2 ht h
  rw [h0t, h0o, cb] at h0
  rw [h1t, h1o, cl] at h1
  match cs, hl with
  | [c0, c1], _ =>
    obtain ⟨s, hs, _⟩ := DataW.trod_bool hb h0
    obtain ⟨l, hl1, hl2⟩ := el _ _ _ h1
    have hc0 : c0 = .bool s := by simpa using hs
    subst hc0
    exact ⟨(s, l), hl1, [.bool s], [c1], rfl, ⟨rfl, rfl⟩, hl2⟩
theorem rd_int {fuel : Nat} {cs : List Value} {x : DataW H × List MemPlace} (hl : cs.length = 2) (h : DataW.trod enc Try.prog w base spare held fuel 39 cs = some x) : ∃ y : Bool × List Nat, Lim y.2 ∧ RdC (fun b => b < w.heap.size) w (J y) cs :=
  rd_int2 Try.underlying39 rfl rfl rfl rfl (tb := 4) (tl := 37) (by kernel_rfl) (by kernel_rfl) Try.underlying4 (fun _ _ _ h => rd_limbs h) hl h
theorem rd_row {fuel : Nat} {cs : List Value} {x : DataW H × List MemPlace} (h : DataW.trod enc Try.prog w base spare held fuel 27 cs = some x) : ∃ r : Row, (∀ y, y ∈ r → Lim y.2) ∧ RdC (fun b => b < w.heap.size) w (V r) cs := by
  obtain ⟨l, h1, h2⟩ := rd_slice (size := 2) J z0 (fun y => Lim y.2) Try.underlying27 (by kernel_rfl) (by decide) (fun n cs x hl h => rd_int hl h) h
  exact ⟨l, h1, h2⟩
end
theorem rd_val {S : Nat → Prop} {w : World} {a : Option Addr} {n c : Nat} {d : Dat} (hd : d.flat = true) (h : RdC S w d (Value.slice a n c).cells.toList) : Rd S w (.slice a n c) d := by
  refine ⟨_, h, ?_⟩
  obtain ⟨v, h1, _, h3⟩ := RdC.single hd h
  rw [h3]
  simpa [Value.cells] using h1
theorem calls_of_meets {g : FuncId} {args : List Value} {fs : List Fact} {w : World} (h : Meets Try.prog g args fs (fun r os fs' => os = [] ∧ fs' = [] ∧ r = .bool true)) (hf : HF (fun b => b < w.heap.size) w fs) :
    Calls Try.prog g args.toArray w fun e w' => e = .returned (.bool true) ∧ Below w.heap.size w w' := by
  refine (h.calls (fun _ => False) w (fun _ h => h.elim) (hf.mono (fun _ _ => rfl) fun b hb => ⟨hb, id⟩)).mono ?_
  rintro e w' ⟨v, os', fs', rfl, ⟨rfl, rfl, rfl⟩, hh⟩
  exact ⟨rfl, hh.below⟩
theorem own0 : ownKnob Try.prog.godebug = none := by kernel_rfl
theorem laid0 : laidOutB Try.prog = true := by kernel_rfl
end Go.Proofs.Ytfkeohlpcjpkbaa

namespace Go.Proofs.Ytfkeohlpcjpkbaa
open Go.RowKit
class TMap (P : Program) (t : TypeId) (k e : outParam TypeId) : Prop where
  und : P.underlying t = some (.map k e)
  keyed : Maps.Keyed P k
/-- A map of one's own, of n entries. -/
def ownM (v : Value) (n : Nat) (k : Nat → Value) (d : Nat → Dat) : Own := own1 v 0 0 (fun _ => .mp n k d)
/-- A walk over a map, with n entries left; c: the entry at which it stands. -/
def ownW (p : Value) (n : Nat) (k : Nat → Value) (d : Nat → Dat) (c : Value) : Own := own1 p 0 0 (fun i => if i = 0 then .mp n k d else .one c)
def isKey (P : Program) (t : TypeId) (v : Value) : Prop := ∃ l, keyOf P t v = some l
def skip {α : Type} (j : Nat) (f : Nat → α) (i : Nat) : α := if i < j then f i else f (i + 1)
theorem map_make {P : Program} {t : TypeId} {os : List Own} {fs : List Fact} {K : Cont} (ks : Nat → Value) (d : Nat → Dat)
    (k : ∀ v, (∃ r, v = .map (some r)) → K v (ownM v 0 ks d :: os) fs) : MapMakeK P t os fs K := by
  refine ⟨fun G w hw => ?_⟩
  have hrun : (val (Instr.makeMap t none)).run P w = .ok (.value (.map (some w.heap.size))) (w.alloc (.map #[] 0)) := by
    simp [val, Instr.makeMap, newObj]
    rfl
  rw [hrun]
  have hb : Below w.heap.size w (w.alloc (.map #[] 0)) := (Below.refl _ _).alloc (Nat.le_refl _) _
  have hnew : (w.alloc (.map #[] 0)).heap[w.heap.size]? = some (.map #[] 0) := by show (w.heap.push _)[w.heap.size]? = _; simp
  exact ⟨hb, _, fs, k _ ⟨_, rfl⟩, hw.alloc _ (.map #[] 0) _ hb rfl (.inr rfl) (.inr (.inr (.inr ⟨rfl, rfl, 0, ks, d, rfl, .inl ⟨_, #[], 0, rfl, hw.size, hnew, ⟨by simp, by simp⟩, Nat.zero_le _, rfl, fun i hi => absurd hi (Nat.not_lt_zero _)⟩⟩)))⟩
/-- Holds.step, with what the new world's good blocks are. -/
theorem Holds.step2 {G : Ctx} {os : List Own} {fs : List Fact} {w w' : World} (h : Holds G os fs w) {pos : Nat} {o o' : Own} (hp : nthOwn os pos = some o)
    (ho : w'.os = w.os) (htp : w'.tape = w.tape) (hou : w'.output = w.output) (hsz : w.heap.size ≤ w'.heap.size)
    (hblk : ∀ k, k < w.heap.size → ¬ o.has k → w'.heap[k]? = w.heap[k]?)
    (hnew : ∀ b, o'.has b → o.has b ∨ (w.heap.size ≤ b))
    (hinj : ∀ i j b, i < o'.m → j < o'.m → vblk (o'.v i) = some b → vblk (o'.v j) = some b → i = j)
    (hown : Agree (Good G.A os w) w w' → (∀ b, Good G.A os w b → Good G.A (setOwn os pos o') w' b) → ∀ i, i < o'.m → OwnVal (Good G.A (setOwn os pos o') w') G.B w' (o'.v i) o'.size (o'.n i) (o'.e i)) :
    Holds G (setOwn os pos o') fs w' := by
  have hmem : ∀ b, o.has b → owned os b := fun b hb => owned_mem.2 ⟨o, nthOwn_mem hp, hb⟩
  have hg : ∀ b, Good G.A os w b → Good G.A (setOwn os pos o') w' b := fun b ⟨g1, g2, g3⟩ => ⟨Nat.lt_of_lt_of_le g1 hsz, g2, fun hb => by
    rcases owned_setOwn hb with hb | hb
    · rcases hnew b hb with hb | hb
      · exact g3 (hmem b hb)
      · omega
    · exact g3 hb⟩
  have ha : Agree (Good G.A os w) w w' := fun b hb => hblk b hb.1 fun h' => hb.2.2 (hmem b h')
  exact h.step hp ho htp hou hsz hblk hnew hinj fun _ => hown ha hg
theorem Ents.get {S : Nat → Prop} {w : World} {es : Array MapEntry} {n : Nat} {k : Nat → Value} {e : Nat → Dat} (h : Ents S w es n k e) {x : MapEntry} {i : Nat} (hx : es.toList[i]? = some x) :
    i < n ∧ x.key = k i ∧ ∃ cs, RdC S w (e i) cs ∧ x.val = pack (e i) cs := by
  have hx' : es[i]? = some x := by simpa using hx
  have hi : i < n := by have := (Array.getElem?_eq_some_iff.1 hx').1; have := h.1; omega
  obtain ⟨y, h1, h2⟩ := h.2 i hi
  rw [hx'] at h1
  obtain rfl := Option.some.inj h1
  exact ⟨hi, h2⟩
theorem Ents.keys {P : Program} {t : TypeId} {S : Nat → Prop} {w : World} {es : Array MapEntry} {n : Nat} {k : Nat → Value} {e : Nat → Dat} (h : Ents S w es n k e) (hk : ∀ i, i < n → isKey P t (k i)) :
    ∀ x, x ∈ es.toList → ∃ l, keyOf P t x.key = some l := fun x hx => by
  obtain ⟨i, hi⟩ := List.getElem?_of_mem hx
  obtain ⟨h1, h2, _⟩ := h.get hi
  rw [h2]
  exact hk i h1
theorem Stp.push {es : Array MapEntry} {clock : Nat} (h : Stp es clock) (key val : Value) : Stp (es.push { key, val, born := clock }) (clock + 1) := by
  refine ⟨fun x hx => ?_, ?_⟩
  · simp only [Array.toList_push, List.mem_append, List.mem_singleton] at hx
    rcases hx with hx | rfl
    · exact Nat.lt_succ_of_lt (h.1 x hx)
    · exact Nat.lt_succ_self _
  · simp only [Array.toList_push, List.map_append, List.map_cons, List.map_nil]
    refine List.nodup_append.2 ⟨h.2, by simp, fun a ha b hb => ?_⟩
    simp only [List.mem_singleton] at hb
    obtain ⟨x, hx, rfl⟩ := List.mem_map.1 ha
    have := h.1 x hx
    omega
def mpu {α : Type} (j : Nat) (x : α) (f : Nat → α) (i : Nat) : α := if i = j then x else f i
theorem mpu_same {α : Type} (j : Nat) (x : α) (f : Nat → α) : mpu j x f j = x := by simp [mpu]
theorem mpu_other {α : Type} {j : Nat} (x : α) (f : Nat → α) {i : Nat} (h : i ≠ j) : mpu j x f i = f i := by simp [mpu, h]
/-- A new key is mpu in. -/
theorem map_new {P : Program} {t k e : TypeId} [ht : TMap P t k e] {v key x : Value} {n : Nat} {ks : Nat → Value} {d : Nat → Dat} {dx : Dat} {os : List Own} {fs : List Fact} {K : Cont} (pos : Nat) (h : nthOwn os pos = some (ownM v n ks d))
    (hv : ∃ r, v = .map (some r)) (hks : ∀ i, i < n → isKey P k (ks i)) (hkey : isKey P k key) (hno : ∀ i, i < n → ks i ≠ key) (hn : n < maxLen) (hx : Knw os fs x dx)
    (kk : K undef (setOwn os pos (ownM v (n + 1) (mpu n key ks) (mpu n dx d))) fs) : MapPutK P t v key x os fs K := by
  refine ⟨fun G w hw => ?_⟩
  obtain ⟨cs, hx1, rfl⟩ := hx G w hw
  obtain ⟨r, rfl⟩ := hv
  rcases hw.own _ (nthOwn_mem h) 0 Nat.zero_lt_one with ⟨h1, _⟩ | ⟨_, _, h1, _⟩ | ⟨_, h1, _⟩ | ⟨_, _, n', k', d', he, ⟨r', es, clock, h1, h2, h3, h4, h5, h6⟩ | ⟨_, _, _, _, _, _, _, h1, _⟩⟩
  · simp [ownM, own1] at h1
  · simp [ownM, own1] at h1
  · simp [ownM, own1] at h1
  · simp only [ownM, own1, Value.map.injEq, Option.some.injEq] at h1
    subst h1
    simp only [ownM, own1, Dat.mp.injEq] at he
    obtain ⟨rfl, rfl, rfl⟩ := he
    obtain ⟨l, hl⟩ := hkey
    have hfind : (Instr.findKey k key es.toList).run P w = .ok none w := by
      rcases ht.keyed.find w hl es.toList (h6.keys hks) with ⟨g1, _⟩ | ⟨j, e0, g1, g2, g3⟩
      · exact g1
      · obtain ⟨q1, q2, _⟩ := h6.get g2
        exact absurd (q2.symm.trans g3) (hno j q1)
    have hrun : (Instr.mapUpdate t (.map (some r)) key (pack dx cs)).run P w = .ok () (ChangeMaps.setBlock w r (.map (es.push ⟨key, pack dx cs, clock⟩) (clock + 1))) := by
      simp [Instr.mapUpdate, run_underlying ht.und, MapKept.run_getObj_map h3, ht.keyed.check w false hl, hfind, MapKept.run_setObj_map _ h3, Result.andThen, ChangeMaps.setBlock]
    rw [unt_run hrun]
    refine ⟨_, fs, kk, hw.step2 h rfl rfl rfl (by simp [ChangeMaps.setBlock]) (fun b _ hb => ?_) (fun b hb => .inl ?_) (fun i j b hi hj _ _ => by simp only [ownM, own1] at hi hj; omega) fun ha hg i hi => ?_⟩
    · exact (MapKept.heap_set h3).2 b fun e => hb ⟨0, Nat.zero_lt_one, by rw [e]; rfl⟩
    · obtain ⟨i, _, hb⟩ := hb; exact ⟨0, Nat.zero_lt_one, hb⟩
    · have hes := h6.mono ha hg
      have hdx := hx1.mono ha hg
      refine .inr (.inr (.inr ⟨rfl, rfl, n + 1, _, _, rfl, .inl ⟨r, _, _, rfl, h2, (MapKept.heap_set h3).1, h4.push _ _, by omega, by simp [h6.1], fun y hy => ?_⟩⟩))
      by_cases hyn : y = n
      · subst hyn
        rw [mpu_same, mpu_same]
        exact ⟨⟨key, pack dx cs, clock⟩, by rw [← h6.1]; simp, rfl, cs, hdx, rfl⟩
      · obtain ⟨u, u1, u2, u3⟩ := hes.2 y (by omega)
        rw [mpu_other _ _ hyn, mpu_other _ _ hyn]
        refine ⟨u, ?_, u2, u3⟩
        rw [Array.getElem?_push, if_neg (by rw [h6.1]; omega)]
        exact u1
  · simp [ownM, own1] at h1
theorem Stp.modify {es : Array MapEntry} {clock : Nat} (h : Stp es clock) (j : Nat) (key val : Value) : Stp (es.modify j fun e => { e with key := key, val := val }) clock := by
  have hm : (es.modify j fun e => { e with key := key, val := val }).toList.map (·.born) = es.toList.map (·.born) := by
    refine List.ext_getElem? fun i => ?_
    simp only [List.getElem?_map, Array.toList_modify]
    rw [List.getElem?_modify]
    by_cases hij : j = i
    · simp only [hij, if_true]; cases es.toList[i]? <;> rfl
    · simp [hij]
  refine ⟨fun x hx => ?_, by rw [hm]; exact h.2⟩
  have : x.born ∈ es.toList.map (·.born) := by rw [← hm]; exact List.mem_map.2 ⟨x, hx, rfl⟩
  obtain ⟨y, hy, hyb⟩ := List.mem_map.1 this
  rw [← hyb]
  exact h.1 y hy
/-- A key that is there gets another value. -/
theorem map_set {P : Program} {t k e : TypeId} [ht : TMap P t k e] {v key x : Value} {n : Nat} {ks : Nat → Value} {d : Nat → Dat} {dx : Dat} {os : List Own} {fs : List Fact} {K : Cont} (pos : Nat) (h : nthOwn os pos = some (ownM v n ks d))
    (hv : ∃ r, v = .map (some r)) (hks : ∀ i, i < n → isKey P k (ks i)) (hkey : isKey P k key) (j : Nat) (hj : j < n) (hjk : ks j = key) (hone : ∀ i, i < n → ks i = key → i = j) (hx : Knw os fs x dx)
    (kk : K undef (setOwn os pos (ownM v n ks (mpu j dx d))) fs) : MapPutK P t v key x os fs K := by
  refine ⟨fun G w hw => ?_⟩
  obtain ⟨cs, hx1, rfl⟩ := hx G w hw
  obtain ⟨r, rfl⟩ := hv
  rcases hw.own _ (nthOwn_mem h) 0 Nat.zero_lt_one with ⟨h1, _⟩ | ⟨_, _, h1, _⟩ | ⟨_, h1, _⟩ | ⟨_, _, n', k', d', he, ⟨r', es, clock, h1, h2, h3, h4, h5, h6⟩ | ⟨_, _, _, _, _, _, _, h1, _⟩⟩
  · simp [ownM, own1] at h1
  · simp [ownM, own1] at h1
  · simp [ownM, own1] at h1
  · simp only [ownM, own1, Value.map.injEq, Option.some.injEq] at h1
    subst h1
    simp only [ownM, own1, Dat.mp.injEq] at he
    obtain ⟨rfl, rfl, rfl⟩ := he
    obtain ⟨l, hl⟩ := hkey
    obtain ⟨e0, hfind, g2, g3⟩ : ∃ e0, (Instr.findKey k key es.toList).run P w = .ok (some (j, e0.val)) w ∧ es.toList[j]? = some e0 ∧ e0.key = key := by
      rcases ht.keyed.find w hl es.toList (h6.keys hks) with ⟨_, g2⟩ | ⟨j', e0, g1, g2, g3⟩
      · obtain ⟨u, u1, u2, _⟩ := h6.2 j hj
        exact absurd (u2.trans hjk) (g2 u (List.mem_of_getElem? (by simpa using u1)))
      · obtain ⟨q1, q2, _⟩ := h6.get g2
        obtain rfl := hone j' q1 (q2.symm.trans g3)
        exact ⟨e0, g1, g2, g3⟩
    have hes0 : es[j]? = some e0 := by simpa using g2
    have hrun : (Instr.mapUpdate t (.map (some r)) key (pack dx cs)).run P w = .ok () (ChangeMaps.setBlock w r (.map (es.modify j fun e => { e with key := key, val := pack dx cs }) clock)) := by
      simp [Instr.mapUpdate, run_underlying ht.und, MapKept.run_getObj_map h3, ht.keyed.check w false hl, hfind, hes0, g3, ht.keyed.stays w hl, MapKept.run_setObj_map _ h3, Result.andThen, ChangeMaps.setBlock]
    rw [unt_run hrun]
    refine ⟨_, fs, kk, hw.step2 h rfl rfl rfl (by simp [ChangeMaps.setBlock]) (fun b _ hb => ?_) (fun b hb => .inl ?_) (fun i j b hi hj _ _ => by simp only [ownM, own1] at hi hj; omega) fun ha hg i hi => ?_⟩
    · exact (MapKept.heap_set h3).2 b fun e => hb ⟨0, Nat.zero_lt_one, by rw [e]; rfl⟩
    · obtain ⟨i, _, hb⟩ := hb; exact ⟨0, Nat.zero_lt_one, hb⟩
    · have hes := h6.mono ha hg
      have hdx := hx1.mono ha hg
      refine .inr (.inr (.inr ⟨rfl, rfl, n, _, _, rfl, .inl ⟨r, _, _, rfl, h2, (MapKept.heap_set h3).1, h4.modify _ _ _, h5, by simp [h6.1], fun y hy => ?_⟩⟩))
      obtain ⟨u, u1, u2, u3⟩ := hes.2 y hy
      by_cases hyn : y = j
      · subst hyn
        rw [mpu_same]
        exact ⟨{ u with key := key, val := pack dx cs }, by rw [Array.getElem?_modify, if_pos rfl, u1]; rfl, hjk.symm, cs, hdx, rfl⟩
      · rw [mpu_other _ _ hyn]
        refine ⟨u, ?_, u2, u3⟩
        rw [Array.getElem?_modify, if_neg (fun h => hyn h.symm)]
        exact u1
  · simp [ownM, own1] at h1
theorem Rd.mp {S : Nat → Prop} {w : World} {v : Value} {n : Nat} {k : Nat → Value} {e : Nat → Dat} (h : Rd S w v (.mp n k e)) :
    ∃ r es clock, v = .map (some r) ∧ S r ∧ w.heap[r]? = some (.map es clock) ∧ Stp es clock ∧ n ≤ maxLen ∧ Ents S w es n k e := by
  obtain ⟨cs, ⟨r, es, clock, rfl, h2, h3, h4, h5, h6, h7⟩, rfl⟩ := h
  exact ⟨r, es, clock, rfl, h2, h3, h4, h6, h5, fun i hi => let ⟨x, cs', k1, k2, k3, k4⟩ := h7 i hi; ⟨x, k1, k2, cs', k3, k4⟩⟩
/-- What a key that is there has. -/
theorem map_get {P : Program} {t k e : TypeId} [ht : TMap P t k e] {v key : Value} {n : Nat} {ks : Nat → Value} {d : Nat → Dat} {os : List Own} {fs : List Fact} {K : Cont} (hm : (v, .mp n ks d) ∈ fs)
    (hks : ∀ i, i < n → isKey P k (ks i)) (hkey : isKey P k key) (j : Nat) (hj : j < n) (hjk : ks j = key) (hone : ∀ i, i < n → ks i = key → i = j)
    (kk : ∀ u, K u os ((u, d j) :: fs)) : MapGetK P t v key false os fs K := by
  refine ⟨fun G w hw => ?_⟩
  obtain ⟨r, es, clock, rfl, h2, h3, h4, h5, h6⟩ := (hw.facts _ hm).mp
  obtain ⟨l, hl⟩ := hkey
  obtain ⟨u, u1, u2, cs, u3, u4⟩ := h6.2 j hj
  refine ⟨u.val, _, fun w' hb => val_run ?_, kk _, hw.put ⟨cs, u3, u4⟩⟩
  have h3' : w'.heap[r]? = some (.map es clock) := (hb.block r h2.1).trans h3
  have hfind : (Instr.findKey k key es.toList).run P w' = .ok (some (j, u.val)) w' := by
    rcases ht.keyed.find w' hl es.toList (h6.keys hks) with ⟨_, g2⟩ | ⟨j', e0, g1, g2, g3⟩
    · exact absurd (u2.trans hjk) (g2 u (List.mem_of_getElem? (by simpa using u1)))
    · obtain ⟨q1, q2, _⟩ := h6.get g2
      obtain rfl := hone j' q1 (q2.symm.trans g3)
      have : es[j']? = some e0 := by simpa using g2
      rw [u1] at this
      obtain rfl := Option.some.inj this
      exact g1
  simp [Instr.lookup, run_underlying ht.und, MapKept.run_getObj_map h3', ht.keyed.check w' _ hl, hfind, Result.andThen]
/-- The zero of a type, as a value, reads as d. -/
class TZeroV (P : Program) (t : TypeId) (d : outParam Dat) : Prop where
  zero : ∃ i z, P.info? t = some i ∧ i.zero = some z ∧ (∀ S w, Rd S w z d)
theorem map_none {P : Program} {t k e : TypeId} [ht : TMap P t k e] {z : Dat} [hz : TZeroV P e z] {v key : Value} {n : Nat} {ks : Nat → Value} {d : Nat → Dat} {os : List Own} {fs : List Fact} {K : Cont} (hm : (v, .mp n ks d) ∈ fs)
    (hks : ∀ i, i < n → isKey P k (ks i)) (hkey : isKey P k key) (hno : ∀ i, i < n → ks i ≠ key)
    (kk : ∀ u, K u os ((u, z) :: fs)) : MapGetK P t v key false os fs K := by
  refine ⟨fun G w hw => ?_⟩
  obtain ⟨r, es, clock, rfl, h2, h3, h4, h5, h6⟩ := (hw.facts _ hm).mp
  obtain ⟨l, hl⟩ := hkey
  obtain ⟨i, zv, z1, z2, z3⟩ := hz.zero
  refine ⟨zv, _, fun w' hb => val_run ?_, kk _, hw.put (z3 _ _)⟩
  have h3' : w'.heap[r]? = some (.map es clock) := (hb.block r h2.1).trans h3
  have hfind : (Instr.findKey k key es.toList).run P w' = .ok none w' := by
    rcases ht.keyed.find w' hl es.toList (h6.keys hks) with ⟨g1, _⟩ | ⟨j, e0, g1, g2, g3⟩
    · exact g1
    · obtain ⟨q1, q2, _⟩ := h6.get g2
      exact absurd (q2.symm.trans g3) (hno j q1)
  simp [Instr.lookup, run_underlying ht.und, MapKept.run_getObj_map h3', ht.keyed.check w' _ hl, hfind, Result.andThen, zeroValue, typeInfo, z1, z2]
end Go.Proofs.Ytfkeohlpcjpkbaa

namespace Go.Proofs.Ytfkeohlpcjpkbaa
open Go.RowKit
theorem leftOf_none (es : Array MapEntry) : leftOf es #[] = es := by simp [leftOf]
theorem map_range {P : Program} {t k e : TypeId} [ht : TMap P t k e] {v : Value} {n : Nat} {ks : Nat → Value} {d : Nat → Dat} {os : List Own} {fs : List Fact} {K : Cont} (hm : (v, .mp n ks d) ∈ fs)
    (kk : ∀ p, isBox p → K p (ownW p n ks d (.bool false) :: os) fs) : RangeK P t v os fs K := by
  refine ⟨fun G w hw => ?_⟩
  obtain ⟨r, es, clock, rfl, h2, h3, h4, h5, h6⟩ := (hw.facts _ hm).mp
  have hrun : (val (Instr.range t (.map (some r)))).run P w = .ok (.value (.pointer (some ⟨w.heap.size, 0, none⟩))) (w.alloc (.mapIter (some r) clock #[] clock)) := val_run' (run_range_map w t k e r es clock ht.und h3)
  rw [hrun]
  have hb : Below w.heap.size w (w.alloc (.mapIter (some r) clock #[] clock)) := (Below.refl _ _).alloc (Nat.le_refl _) _
  have hnew : (w.alloc (.mapIter (some r) clock #[] clock)).heap[w.heap.size]? = some (.mapIter (some r) clock #[] clock) := by show (w.heap.push _)[w.heap.size]? = _; simp
  have hg : ∀ b, Good G.A os w b → Good G.A (ownW (.pointer (some ⟨w.heap.size, 0, none⟩)) n ks d (.bool false) :: os) (w.alloc (.mapIter (some r) clock #[] clock)) b := fun b ⟨g1, g2, g3⟩ =>
    ⟨Nat.lt_of_lt_of_le g1 hb.size, g2, fun ho => ho.elim (fun ⟨i, hi, hv⟩ => by
      simp only [ownW, own1, vblk, Option.some.injEq] at hv
      omega) g3⟩
  have ha : Agree (Good G.A os w) w (w.alloc (.mapIter (some r) clock #[] clock)) := agree_alloc _ Good.lt
  refine ⟨hb, _, fs, kk _ ⟨_, rfl⟩, hw.alloc _ (.mapIter (some r) clock #[] clock) _ hb rfl (.inr rfl) (.inr (.inr (.inr ⟨rfl, rfl, n, ks, d, rfl, .inr
    ⟨_, r, clock, #[], clock, es, clock, rfl, hw.size, hnew, hg r h2, (hb.block r h2.1).trans h3, h4, h4.1, Nat.le_refl _, Nat.le_refl _, by rw [leftOf_none]; exact h6.mono ha hg, fun c hc => ?_⟩⟩)))⟩
  simp only [ownW, own1, if_neg (show ¬ (1 : Nat) = 0 by decide), Dat.one.injEq] at hc
  cases hc
theorem leftOf_push {es : Array MapEntry} {seen : Array Nat} {x : MapEntry} {j : Nat} (hn : (es.toList.map (·.born)).Nodup) (hx : (leftOf es seen).toList[j]? = some x) :
    (leftOf es (seen.push x.born)).toList = (leftOf es seen).toList.eraseIdx j := by
  have h1 : (leftOf es (seen.push x.born)).toList = (leftOf es seen).toList.filter (fun y => !(y.born == x.born)) := by
    simp only [leftOf, Array.toList_filter, List.filter_filter]
    congr 1
    funext y
    rw [contains_push]
    cases seen.contains y.born <;> cases (y.born == x.born) <;> rfl
  rw [h1]
  refine ChangeMaps.filter_eq_eraseIdx (fun y => y.born == x.born) _ j x hx (by simp) ?_
  have h2 : ((leftOf es seen).toList.map (·.born)).Nodup := by
    refine List.Nodup.sublist ?_ hn
    simp only [leftOf, Array.toList_filter]
    exact List.Sublist.map _ List.filter_sublist
  rw [List.Nodup, List.pairwise_map] at h2
  refine h2.imp fun {a b} hab ⟨e1, e2⟩ => hab ?_
  simp only [beq_iff_eq] at e1 e2
  rw [e1, e2]
theorem walk_next {P : Program} {p : Value} {ty : TypeId} {n : Nat} {ks : Nat → Value} {d : Nat → Dat} {c : Value} {os : List Own} {fs : List Fact} {K : Cont} (pos : Nat) (h : nthOwn os pos = some (ownW p n ks d c)) (hp : isBox p)
    (h0 : n = 0 → K (.tuple #[.bool false]) os fs)
    (h1 : ∀ j x, j < n → K (.tuple #[.bool true, ks j, x]) (setOwn os pos (ownW p (n - 1) (skip j ks) (skip j d) (.tuple #[ks j, x]))) ((x, d j) :: fs)) : NextK P p false ty os fs K := by
  refine ⟨fun G w hw => ?_⟩
  obtain ⟨r0, rfl⟩ := hp
  rcases hw.own _ (nthOwn_mem h) 0 Nat.zero_lt_one with ⟨g1, _⟩ | ⟨_, _, g1, _⟩ | ⟨_, _, g1, _⟩ | ⟨_, _, n', k', d', he, ⟨r', es, clock, g1, _⟩ | ⟨r', b, since, seen, last, es, clock, g1, g2, g3, g4, g5, g6, g7, g8, g8', g9, _⟩⟩
  · simp [ownW, own1] at g1
  · simp [ownW, own1] at g1
  · simp [ownW, own1] at g1
  · simp [ownW, own1] at g1
  simp only [ownW, own1, Value.pointer.injEq, Option.some.injEq, Addr.mk.injEq, and_true] at g1
  subst g1
  simp only [ownW, own1, if_true, Dat.mp.injEq] at he
  obtain ⟨rfl, rfl, rfl⟩ := he
  rcases run_next_at (P := P) w ty r0 b since last seen es clock g3 g5 g7 g8 with ⟨q1, q2⟩ | ⟨x, q1, w1, q2, q3⟩
  · rw [val_run' q2]
    exact ⟨os, fs, h0 (by rw [← g9.1]; exact q1), hw⟩
  · obtain ⟨j, hj⟩ := List.getElem?_of_mem q1
    obtain ⟨hjn, hk, cs, hcs, hv⟩ := g9.get hj
    rw [val_run' q3]
    have hr1 : w1.heap[r0]? = some (.mapIter (some b) since seen last) := by rcases q2 with rfl | rfl <;> exact g3
    have hset := MapKept.heap_set (o' := .mapIter (some b) since (seen.push x.born) clock) hr1
    have hw1 : w1.heap = w.heap ∧ w1.os = w.os ∧ w1.tape = w.tape ∧ w1.output = w.output := by rcases q2 with rfl | rfl <;> exact ⟨rfl, rfl, rfl, rfl⟩
    have hne : ∀ y, y ≠ r0 → (ChangeMaps.setBlock w1 r0 (.mapIter (some b) since (seen.push x.born) clock)).heap[y]? = w.heap[y]? := fun y hy => (hset.2 y hy).trans (by rw [hw1.1])
    have hbr : b ≠ r0 := fun e => by rw [e, g3] at g5; cases g5
    have hkx := h1 j x.val hjn
    rw [← hk] at hkx
    refine ⟨_, _, hkx, Holds.put (hw.step2 h hw1.2.1 hw1.2.2.1 hw1.2.2.2 (by simp [ChangeMaps.setBlock, hw1.1]) (fun y _ hy => hne y fun e => hy ⟨0, Nat.zero_lt_one, by rw [e]; rfl⟩) (fun y hy => .inl ?_) (fun i j b hi hj _ _ => by simp only [ownW, own1] at hi hj; omega) fun ha hg i hi => ?_) ?_⟩
    · obtain ⟨i, _, hy⟩ := hy; exact ⟨0, Nat.zero_lt_one, hy⟩
    · refine .inr (.inr (.inr ⟨rfl, rfl, n - 1, _, _, rfl, .inr ⟨r0, b, since, seen.push x.born, clock, es, clock, rfl, g2, hset.1, hg b g4, (hne b hbr).trans g5, g6, g7, g8', g8', ?_, fun c hc => ?_⟩⟩))
      · have hl := leftOf_push g6.2 hj
        have hes := g9.mono ha hg
        have hlen : (leftOf es seen).toList.length = n := by simpa using g9.1
        refine ⟨?_, fun y hy => ?_⟩
        · have : (leftOf es (seen.push x.born)).toList.length = n - 1 := by rw [hl, List.length_eraseIdx, hlen, if_pos hjn]
          simpa using this
        · have hget : (leftOf es (seen.push x.born))[y]? = (leftOf es seen)[if y < j then y else y + 1]? := by
            rw [← Array.getElem?_toList, hl, List.getElem?_eraseIdx]
            split <;> simp
          obtain ⟨u, u1, u2, u3⟩ := hes.2 (if y < j then y else y + 1) (by split <;> omega)
          refine ⟨u, hget.trans u1, ?_, ?_⟩
          · rw [u2]; unfold skip; split <;> rfl
          · have e1 : skip j d y = d (if y < j then y else y + 1) := by unfold skip; split <;> rfl
            rw [e1]; exact u3
      · simp only [ownW, own1, if_neg (show ¬ (1 : Nat) = 0 by decide), Dat.one.injEq, Value.tuple.injEq] at hc
        exact ⟨x, seen, (mem_left q1).1, rfl, hc.symm, rfl⟩
    · have ha : Agree (Good G.A os w) w (ChangeMaps.setBlock w1 r0 (.mapIter (some b) since (seen.push x.born) clock)) := fun y hy => hne y fun e => hy.2.2 (by rw [e]; exact owned_mem.2 ⟨_, nthOwn_mem h, 0, Nat.zero_lt_one, rfl⟩)
      refine ⟨cs, hcs.mono ha fun y ⟨z1, z2, z3⟩ => ⟨by simpa [ChangeMaps.setBlock, hw1.1] using z1, z2, fun hy => ?_⟩, hv⟩
      rcases owned_setOwn hy with hy | hy
      · obtain ⟨i, hi, hy⟩ := hy
        exact z3 (owned_mem.2 ⟨_, nthOwn_mem h, 0, Nat.zero_lt_one, hy⟩)
      · exact z3 hy
theorem walk_entry {P : Program} {p : Value} {n : Nat} {ks : Nat → Value} {d : Nat → Dat} {c : Array Value} {os : List Own} {fs : List Fact} {K : Cont} (pos : Nat) (h : nthOwn os pos = some (ownW p n ks d (.tuple c))) (hp : isBox p)
    (kk : K (.tuple c) os fs) : EntryK P p os fs K := by
  refine ⟨fun G w hw => ?_⟩
  obtain ⟨r0, rfl⟩ := hp
  rcases hw.own _ (nthOwn_mem h) 0 Nat.zero_lt_one with ⟨g1, _⟩ | ⟨_, _, g1, _⟩ | ⟨_, _, g1, _⟩ | ⟨_, _, n', k', d', he, ⟨r', es, clock, g1, _⟩ | ⟨r', b, since, seen, last, es, clock, g1, g2, g3, g4, g5, g6, g7, g8, g8', g9, g10⟩⟩
  · simp [ownW, own1] at g1
  · simp [ownW, own1] at g1
  · simp [ownW, own1] at g1
  · simp [ownW, own1] at g1
  simp only [ownW, own1, Value.pointer.injEq, Option.some.injEq, Addr.mk.injEq, and_true] at g1
  subst g1
  obtain ⟨x, s0, q1, rfl, rfl, rfl⟩ := g10 c rfl
  rw [val_run' (run_entry_at (P := P) w r0 b since s0 es last x g3 g5 q1 g6.2)]
  exact ⟨os, fs, kk, hw⟩
/-- A map of one's own becomes a fact: from now on nobody writes it. -/
theorem Seals.map {os : List Own} {fs : List Fact} (pos : Nat) {v : Value} {n : Nat} {ks : Nat → Value} {d : Nat → Dat} (h : nthOwn os pos = some (ownM v n ks d)) (hv : ∃ r, v = .map (some r)) :
    Seals os fs (dropOwn os pos) ((v, .mp n ks d) :: fs) := by
  intro G w hw
  refine (hw.drop pos).put ?_
  have hg : ∀ b, Good G.A os w b → Good G.A (dropOwn os pos) w b := fun b ⟨h1, h2, h3⟩ => ⟨h1, h2, fun hb => h3 (by
    obtain ⟨x, hx, hxb⟩ := owned_mem.1 hb
    obtain ⟨i, _, hi⟩ := dropOwn_mem hx
    exact owned_mem.2 ⟨x, nthOwn_mem hi, hxb⟩)⟩
  obtain ⟨r, rfl⟩ := hv
  rcases hw.own _ (nthOwn_mem h) 0 Nat.zero_lt_one with ⟨h1, _⟩ | ⟨_, _, h1, _⟩ | ⟨_, h1, _⟩ | ⟨_, _, n', k', d', he, ⟨r', es, clock, h1, h2, h3, h4, h5, h6⟩ | ⟨_, _, _, _, _, _, _, h1, _⟩⟩
  · simp [ownM, own1] at h1
  · simp [ownM, own1] at h1
  · simp [ownM, own1] at h1
  · simp only [ownM, own1, Value.map.injEq, Option.some.injEq] at h1
    subst h1
    simp only [ownM, own1, Dat.mp.injEq] at he
    obtain ⟨rfl, rfl, rfl⟩ := he
    refine ⟨[.map (some r)], ⟨r, es, clock, rfl, good_drop hw h ⟨0, Nat.zero_lt_one, rfl⟩, h3, h4, h6.1, h5, fun i hi => ?_⟩, rfl⟩
    obtain ⟨x, x1, x2, cs, x3, x4⟩ := h6.2 i hi
    exact ⟨x, cs, x1, x2, x3.mono (fun _ _ => rfl) hg, x4⟩
  · simp [ownM, own1] at h1
end Go.Proofs.Ytfkeohlpcjpkbaa

namespace Go.Proofs.Ytfkeohlpcjpkbaa
open Go.RowKit
class TSpot (P : Program) (k : TypeId) : Prop where
  und : ∃ f0 f1, P.underlying k = some (.struct #[f0, f1]) ∧ f0.offset = 0 ∧ f1.offset = 1 ∧ (f0.name != "_") = true ∧ (f1.name != "_") = true ∧ P.underlying f0.type = some (.int .i64) ∧ P.underlying f1.type = some (.int .i64) ∧
    P.cellsOf k = 2 ∧ P.cellsOf f0.type = 1 ∧ P.cellsOf f1.type = 1
  kt : P.keyType k = true
  some : ∃ m, P.types.size = m + 1
def spot (x y : Int) : Value := .agg #[.int .i64 x, .int .i64 y]
def spotD (x y : Int) : Dat := .cat (.one (.int .i64 x)) (.one (.int .i64 y))
theorem spot_inj {x y x' y' : Int} (h : spot x y = spot x' y') : x = x' ∧ y = y' := by
  simp only [spot, Value.agg.injEq, Array.mk.injEq, List.cons.injEq, Value.int.injEq, true_and, and_true] at h
  exact h
theorem spot_key {P : Program} {k : TypeId} [ht : TSpot P k] {x y : Int} (hx : inK .i64 x) (hy : inK .i64 y) : isKey P k (spot x y) := by
  obtain ⟨f0, f1, h1, h2, h3, h4, h5, h6, h7, h8, h9, h10⟩ := ht.und
  obtain ⟨m, hm⟩ := ht.some
  simp only [inK] at hx hy
  have wx : (Lit.int .i64 x).wf = true := by simp [Lit.wf, IntKind.min, IntKind.max, IntKind.bits, IntKind.signed]; omega
  have wy : (Lit.int .i64 y).wf = true := by simp [Lit.wf, IntKind.min, IntKind.max, IntKind.bits, IntKind.signed]; omega
  refine ⟨.string (keyBytes [.int .i64 x, .int .i64 y]), ?_⟩
  unfold keyOf
  simp only [h1, ht.kt, spot, Value.formed, h8, Bool.true_and, List.size_toArray, List.length_cons, List.length_nil, beq_self_eq_true, if_true, hm, Value.cells]
  have e : P.keyLits (m + 1 + 1) k [.int .i64 x, .int .i64 y] = some [.int .i64 x, .int .i64 y] := by
    unfold Program.keyLits
    simp only [h1, h8, List.length_cons, List.length_nil]
    have k0 : P.keyLits (m + 1) f0.type [.int .i64 x] = some [.int .i64 x] := by unfold Program.keyLits; simp [h6, wx]
    have k1 : P.keyLits (m + 1) f1.type [.int .i64 y] = some [.int .i64 y] := by unfold Program.keyLits; simp [h7, wy]
    simp [h2, h3, h4, h5, h9, h10, k0, k1]
  rw [e]; rfl
theorem Rd.spot {S : Nat → Prop} {w : World} {v : Value} {x y : Int} (h : Rd S w v (spotD x y)) : v = Go.Proofs.Ytfkeohlpcjpkbaa.spot x y := by
  obtain ⟨cs, ⟨c1, c2, rfl, ⟨rfl, _⟩, ⟨rfl, _⟩⟩, rfl⟩ := h
  rfl
theorem Reads.spot {os : List Own} {fs : List Fact} (x y : Int) : Reads os fs (spot x y) (spotD x y) := fun _ _ _ => ⟨[.int .i64 x, .int .i64 y], ⟨[_], [_], rfl, ⟨rfl, rfl⟩, ⟨rfl, rfl⟩⟩, rfl⟩
theorem build_spot {P : Program} {t : TypeId} {z0 z1 : Value} [ht : TStr2 P t z0 z1] {x y : Int} {os : List Own} {fs : List Fact} {K : Cont} (k : K (spot x y) os fs) : BuildK P t [(0, .int .i64 x), (1, .int .i64 y)] os fs K :=
  ⟨fun _ _ hw => ⟨_, _, fun w' _ => val_run (build_run2 ht rfl rfl w'), k, hw⟩⟩
theorem load_spot {P : Program} {t : TypeId} {v : Value} {size : Nat} {e : Nat → Dat} {x y : Int} {os : List Own} {fs : List Fact} {K : Cont} [ht : TAgg P t 2] (pos : Nat) (h : nthOwn os pos = some (own1 v size 1 e)) (hb : isBox v)
    (hd : e 0 = spotD x y) (k' : K (spot x y) os fs) : LoadK P t v os fs K := by
  obtain ⟨r, rfl⟩ := hb
  refine ⟨fun G w hw => ?_⟩
  have hov := hw.own _ (nthOwn_mem h) 0 Nat.zero_lt_one
  obtain ⟨r', cap, hr⟩ := hov.row Nat.zero_lt_one
  obtain ⟨cs, g1, g2, g3⟩ := hr.row.cellsAt Nat.zero_lt_one
  have hrr : r' = r := by have := hr.blk; simp [own1, vblk] at this; exact this.symm
  subst hrr
  have g1' : RdC (Good G.A os w) w (spotD x y) cs := hd ▸ g1
  have hp : pack (spotD x y) cs = spot x y := Rd.spot ⟨cs, g1', rfl⟩
  refine ⟨_, fs, fun w' hb => val_run ?_, k', hw⟩
  have := loadAt_run (P := P) (t := t) (w := w') (r := r') (o := 0) (d := spotD x y) ht g1' fun j hj => by
    have := g3 w' (hb.block r' (hov.blk hr.blk).2) j hj
    simpa using this
  rwa [hp] at this
-- Maps as lists of entries.
section
variable {α : Type}
def spk (t : Nat × Nat × α) : Value := spot (t.1 : Nat) (t.2.1 : Nat)
/-- No key twice. -/
def Nd (L : List (Nat × Nat × α)) : Prop := L.Pairwise fun s t => ¬ (s.1 = t.1 ∧ s.2.1 = t.2.1)
def In64 (L : List (Nat × Nat × α)) : Prop := ∀ t, t ∈ L → t.1 < 1073741824 ∧ t.2.1 < 1073741824
/-- What a map has at a key. -/
def lk (z : α) (L : List (Nat × Nat × α)) (i j : Nat) : α := ((L.find? fun t => t.1 == i && t.2.1 == j).map fun t => t.2.2).getD z
def mapK (z : α) (L : List (Nat × Nat × α)) (i : Nat) : Value := spk (L.getD i (0, 0, z))
def mapE (f : α → Dat) (z : α) (L : List (Nat × Nat × α)) (i : Nat) : Dat := f (L.getD i (0, 0, z)).2.2
def MD (f : α → Dat) (z : α) (L : List (Nat × Nat × α)) : Dat := .mp L.length (mapK z L) (mapE f z L)
def ownMD (f : α → Dat) (z : α) (v : Value) (L : List (Nat × Nat × α)) : Own := ownM v L.length (mapK z L) (mapE f z L)
theorem mapK_key {P : Program} {k : TypeId} [TSpot P k] {z : α} {L : List (Nat × Nat × α)} (h : In64 L) (i : Nat) (hi : i < L.length) : isKey P k (mapK z L i) := by
  have hm : L.getD i (0, 0, z) ∈ L := by rw [List.getD_eq_getElem?_getD, List.getElem?_eq_getElem hi]; exact List.getElem_mem hi
  have := h _ hm
  exact spot_key ⟨by omega, by omega⟩ ⟨by omega, by omega⟩
theorem mapK_eq {z : α} {L : List (Nat × Nat × α)} {i a b : Nat} (h : mapK z L i = spot (a : Nat) (b : Nat)) : (L.getD i (0, 0, z)).1 = a ∧ (L.getD i (0, 0, z)).2.1 = b := by
  have := spot_inj h
  omega
theorem lk_some {z : α} {L : List (Nat × Nat × α)} {i j : Nat} : (∃ n, n < L.length ∧ mapK z L n = spot (i : Nat) (j : Nat) ∧ lk z L i j = (L.getD n (0, 0, z)).2.2) ∨ ((∀ n, n < L.length → mapK z L n ≠ spot (i : Nat) (j : Nat)) ∧ lk z L i j = z) := by
  unfold lk
  cases hf : L.find? fun t => t.1 == i && t.2.1 == j with
  | none =>
    refine .inr ⟨fun n hn e => ?_, rfl⟩
    obtain ⟨e1, e2⟩ := mapK_eq e
    have hm : L.getD n (0, 0, z) ∈ L := by rw [List.getD_eq_getElem?_getD, List.getElem?_eq_getElem hn]; exact List.getElem_mem hn
    have := List.find?_eq_none.1 hf _ hm
    rw [e1, e2] at this
    simp at this
  | some t =>
    have h1 := List.find?_some hf
    obtain ⟨n, hn, e⟩ := List.mem_iff_getElem.1 (List.mem_of_find?_eq_some hf)
    have hg : L.getD n (0, 0, z) = t := by rw [List.getD_eq_getElem?_getD, List.getElem?_eq_getElem hn]; exact e
    simp only [Bool.and_eq_true, beq_iff_eq] at h1
    refine .inl ⟨n, hn, ?_, by rw [hg]; rfl⟩
    unfold mapK
    rw [hg]
    unfold spk
    rw [h1.1, h1.2]
theorem Nd.one {z : α} {L : List (Nat × Nat × α)} (h : Nd L) {m n : Nat} (hm : m < L.length) (hn : n < L.length) (e : mapK z L m = mapK z L n) : m = n := by
  have := spot_inj e
  simp only [List.getD_eq_getElem?_getD, List.getElem?_eq_getElem hm, List.getElem?_eq_getElem hn, Option.getD_some] at this
  have e1 : L[m].1 = L[n].1 ∧ L[m].2.1 = L[n].2.1 := by omega
  rcases Nat.lt_trichotomy m n with hlt | rfl | hgt
  · exact absurd e1 (List.pairwise_iff_getElem.1 h m n hm hn hlt)
  · rfl
  · exact absurd ⟨e1.1.symm, e1.2.symm⟩ (List.pairwise_iff_getElem.1 h n m hn hm hgt)
theorem get_L {P : Program} {t k e : TypeId} [ht : TMap P t k e] [TSpot P k] {f : α → Dat} {z : α} [hz : TZeroV P e (f z)] {v : Value} {L : List (Nat × Nat × α)} {i j : Nat} {os : List Own} {fs : List Fact} {K : Cont} (hm : (v, MD f z L) ∈ fs)
    (hL : In64 L) (hn : Nd L) (hi : i < 1073741824) (hj : j < 1073741824) (kk : ∀ u, K u os ((u, f (lk z L i j)) :: fs)) : MapGetK P t v (spot (i : Nat) (j : Nat)) false os fs K := by
  have hkey : isKey P k (spot (i : Nat) (j : Nat)) := spot_key ⟨by omega, by omega⟩ ⟨by omega, by omega⟩
  rcases lk_some (z := z) (L := L) (i := i) (j := j) with ⟨n, h1, h2, h3⟩ | ⟨h1, h2⟩
  · refine map_get hm (mapK_key hL) hkey n h1 h2 (fun m hm e => hn.one hm h1 (e.trans h2.symm)) fun u => ?_
    have := kk u
    rw [h3] at this; exact this
  · refine map_none hm (mapK_key hL) hkey h1 fun u => ?_
    have := kk u
    rw [h2] at this; exact this
theorem get_own_L {P : Program} {t k e : TypeId} [ht : TMap P t k e] [TSpot P k] {f : α → Dat} {z : α} [hz : TZeroV P e (f z)] {v : Value} {L : List (Nat × Nat × α)} {i j : Nat} {os : List Own} {fs : List Fact} {K : Cont} (pos : Nat) (h : nthOwn os pos = some (ownMD f z v L))
    (hv : ∃ r, v = .map (some r)) (hL : In64 L) (hn : Nd L) (hi : i < 1073741824) (hj : j < 1073741824) (kk : ∀ u, K u os ((u, f (lk z L i j)) :: fs)) : MapGetK P t v (spot (i : Nat) (j : Nat)) false os fs K := by
  have hkey : isKey P k (spot (i : Nat) (j : Nat)) := spot_key ⟨by omega, by omega⟩ ⟨by omega, by omega⟩
  refine ⟨fun G w hw => ?_⟩
  obtain ⟨r, rfl⟩ := hv
  rcases hw.own _ (nthOwn_mem h) 0 Nat.zero_lt_one with ⟨h1, _⟩ | ⟨_, _, h1, _⟩ | ⟨_, h1, _⟩ | ⟨_, _, n', k', d', he, ⟨r', es, clock, h1, h2, h3, h4, h5, h6⟩ | ⟨_, _, _, _, _, _, _, h1, _⟩⟩
  · simp [ownMD, ownM, own1] at h1
  · simp [ownMD, ownM, own1] at h1
  · simp [ownMD, ownM, own1] at h1
  · simp only [ownMD, ownM, own1, Value.map.injEq, Option.some.injEq] at h1
    subst h1
    simp only [ownMD, ownM, own1, Dat.mp.injEq] at he
    obtain ⟨rfl, rfl, rfl⟩ := he
    obtain ⟨l, hl⟩ := hkey
    have hks := mapK_key (P := P) (k := k) (z := z) hL
    have hbr : r < w.heap.size := (Array.getElem?_eq_some_iff.1 h3).1
    rcases lk_some (z := z) (L := L) (i := i) (j := j) with ⟨n, g1, g2, g3⟩ | ⟨g1, g2⟩
    · obtain ⟨u, u1, u2, cs, u3, u4⟩ := h6.2 n g1
      rw [g3] at kk
      refine ⟨u.val, _, fun w' hb => val_run ?_, kk _, hw.put ⟨cs, u3, u4⟩⟩
      have h3' : w'.heap[r]? = some (.map es clock) := (hb.block r hbr).trans h3
      have hfind : (Instr.findKey k (spot (i : Nat) (j : Nat)) es.toList).run P w' = .ok (some (n, u.val)) w' := by
        rcases ht.keyed.find w' hl es.toList (h6.keys hks) with ⟨_, q2⟩ | ⟨j', e0, q1, q2, q3⟩
        · exact absurd (u2.trans g2) (q2 u (List.mem_of_getElem? (by simpa using u1)))
        · obtain ⟨p1, p2, _⟩ := h6.get q2
          obtain rfl := hn.one (z := z) p1 g1 ((p2.symm.trans q3).trans g2.symm)
          have : es[j']? = some e0 := by simpa using q2
          rw [u1] at this
          obtain rfl := Option.some.inj this
          exact q1
      simp [Instr.lookup, run_underlying ht.und, MapKept.run_getObj_map h3', ht.keyed.check w' _ hl, hfind, Result.andThen]
    · obtain ⟨i0, zv, z1, z2, z3⟩ := hz.zero
      rw [g2] at kk
      refine ⟨zv, _, fun w' hb => val_run ?_, kk _, hw.put (z3 _ _)⟩
      have h3' : w'.heap[r]? = some (.map es clock) := (hb.block r hbr).trans h3
      have hfind : (Instr.findKey k (spot (i : Nat) (j : Nat)) es.toList).run P w' = .ok none w' := by
        rcases ht.keyed.find w' hl es.toList (h6.keys hks) with ⟨q1, _⟩ | ⟨j', e0, q1, q2, q3⟩
        · exact q1
        · obtain ⟨p1, p2, _⟩ := h6.get q2
          exact absurd (p2.symm.trans q3) (g1 j' p1)
      simp [Instr.lookup, run_underlying ht.und, MapKept.run_getObj_map h3', ht.keyed.check w' _ hl, hfind, Result.andThen, zeroValue, typeInfo, z1, z2]
  · simp [ownMD, ownM, own1] at h1
theorem mpu_K {z : α} (L : List (Nat × Nat × α)) (t : Nat × Nat × α) : mpu L.length (spk t) (mapK z L) = mapK z (L ++ [t]) := by
  funext i
  unfold mpu mapK
  by_cases h : i = L.length
  · subst h; simp [List.getD_eq_getElem?_getD]
  · rw [if_neg h]
    simp only [List.getD_eq_getElem?_getD]
    by_cases h2 : i < L.length
    · rw [List.getElem?_append_left h2]
    · rw [List.getElem?_eq_none (by omega), List.getElem?_eq_none (by simp; omega)]
theorem mpu_E {f : α → Dat} {z : α} (L : List (Nat × Nat × α)) (t : Nat × Nat × α) : mpu L.length (f t.2.2) (mapE f z L) = mapE f z (L ++ [t]) := by
  funext i
  unfold mpu mapE
  by_cases h : i = L.length
  · subst h; simp [List.getD_eq_getElem?_getD]
  · rw [if_neg h]
    simp only [List.getD_eq_getElem?_getD]
    by_cases h2 : i < L.length
    · rw [List.getElem?_append_left h2]
    · rw [List.getElem?_eq_none (by omega), List.getElem?_eq_none (by simp; omega)]
theorem set_K {z : α} {L : List (Nat × Nat × α)} {n : Nat} (hn : n < L.length) (a : α) : mapK z (L.set n ((L.getD n (0, 0, z)).1, (L.getD n (0, 0, z)).2.1, a)) = mapK z L := by
  funext i
  unfold mapK
  simp only [List.getD_eq_getElem?_getD, List.getElem?_set]
  by_cases h : n = i
  · subst h; simp [hn, spk]
  · simp [h]
theorem set_E {f : α → Dat} {z : α} {L : List (Nat × Nat × α)} {n : Nat} (hn : n < L.length) (a : α) : mapE f z (L.set n ((L.getD n (0, 0, z)).1, (L.getD n (0, 0, z)).2.1, a)) = mpu n (f a) (mapE f z L) := by
  funext i
  unfold mapE mpu
  simp only [List.getD_eq_getElem?_getD, List.getElem?_set]
  by_cases h : n = i
  · subst h; simp [hn]
  · simp [h, Ne.symm h]
theorem skip_K {z : α} {L : List (Nat × Nat × α)} (j : Nat) : skip j (mapK z L) = mapK z (L.eraseIdx j) := by
  funext i
  unfold skip mapK
  simp only [List.getD_eq_getElem?_getD, List.getElem?_eraseIdx]
  split <;> rfl
theorem skip_E {f : α → Dat} {z : α} {L : List (Nat × Nat × α)} (j : Nat) : skip j (mapE f z L) = mapE f z (L.eraseIdx j) := by
  funext i
  unfold skip mapE
  simp only [List.getD_eq_getElem?_getD, List.getElem?_eraseIdx]
  split <;> rfl
/-- A map's content with one entry mpu in. -/
def mput (L : List (Nat × Nat × α)) (i j : Nat) (a : α) : List (Nat × Nat × α) :=
  match L.findIdx? fun t => t.1 == i && t.2.1 == j with
  | some n => L.set n (i, j, a)
  | none => L ++ [(i, j, a)]
theorem put_L {P : Program} {t k e : TypeId} [ht : TMap P t k e] [TSpot P k] {f : α → Dat} {z : α} {v x : Value} {L : List (Nat × Nat × α)} {i j : Nat} (a : α) {os : List Own} {fs : List Fact} {K : Cont} (pos : Nat) (h : nthOwn os pos = some (ownMD f z v L))
    (hv : ∃ r, v = .map (some r)) (hL : In64 L) (hnd : Nd L) (hi : i < 1073741824) (hj : j < 1073741824) (hn : L.length < maxLen) (hx : Knw os fs x (f a))
    (kk : K undef (setOwn os pos (ownMD f z v (mput L i j a))) fs) : MapPutK P t v (spot (i : Nat) (j : Nat)) x os fs K := by
  have hkey : isKey P k (spot (i : Nat) (j : Nat)) := spot_key ⟨by omega, by omega⟩ ⟨by omega, by omega⟩
  unfold mput at kk
  cases hf : L.findIdx? fun t => t.1 == i && t.2.1 == j with
  | none =>
    rw [hf] at kk
    refine map_new pos h hv (mapK_key hL) hkey (fun n hn e => ?_) hn hx ?_
    · obtain ⟨e1, e2⟩ := mapK_eq e
      have hm : L.getD n (0, 0, z) ∈ L := by rw [List.getD_eq_getElem?_getD, List.getElem?_eq_getElem hn]; exact List.getElem_mem hn
      have := List.findIdx?_eq_none_iff.1 hf _ hm
      rw [e1, e2] at this
      simp at this
    · have e1 := mpu_K (z := z) L (i, j, a)
      have e2 := mpu_E (f := f) (z := z) L (i, j, a)
      simp only at e2
      show K undef (setOwn os pos (ownM v (L.length + 1) (mpu L.length (spk (i, j, a)) (mapK z L)) (mpu L.length (f a) (mapE f z L)))) fs
      rw [e1, e2]
      simp only [ownMD, List.length_append, List.length_cons, List.length_nil] at kk
      exact kk
  | some n =>
    rw [hf] at kk
    obtain ⟨hnl, h1, _⟩ := List.findIdx?_eq_some_iff_getElem.1 hf
    simp only [Bool.and_eq_true, beq_iff_eq] at h1
    have hg : L.getD n (0, 0, z) = L[n] := by rw [List.getD_eq_getElem?_getD, List.getElem?_eq_getElem hnl]; rfl
    have hk : mapK z L n = spot (i : Nat) (j : Nat) := by unfold mapK spk; rw [hg, h1.1, h1.2]
    refine map_set pos h hv (mapK_key hL) hkey n hnl hk (fun m hm e => hnd.one hm hnl (e.trans hk.symm)) hx ?_
    have e1 := set_K (z := z) hnl a
    have e2 := set_E (f := f) (z := z) hnl a
    rw [hg, h1.1, h1.2] at e1 e2
    simp only [ownMD, List.length_set, e1, e2] at kk
    exact kk
def ownWD (f : α → Dat) (z : α) (p : Value) (L : List (Nat × Nat × α)) (c : Value) : Own := ownW p L.length (mapK z L) (mapE f z L) c
theorem make_L {P : Program} {t : TypeId} (f : α → Dat) (z : α) {os : List Own} {fs : List Fact} {K : Cont} (k : ∀ v, (∃ r, v = .map (some r)) → K v (ownMD f z v [] :: os) fs) : MapMakeK P t os fs K :=
  map_make (mapK z []) (mapE f z []) k
theorem range_L {P : Program} {t k e : TypeId} [ht : TMap P t k e] {f : α → Dat} {z : α} {v : Value} {L : List (Nat × Nat × α)} {os : List Own} {fs : List Fact} {K : Cont} (hm : (v, MD f z L) ∈ fs)
    (kk : ∀ p, isBox p → K p (ownWD f z p L (.bool false) :: os) fs) : RangeK P t v os fs K := map_range hm kk
theorem next_L {P : Program} {p : Value} {ty : TypeId} {f : α → Dat} {z : α} {L : List (Nat × Nat × α)} {c : Value} {os : List Own} {fs : List Fact} {K : Cont} (pos : Nat) (h : nthOwn os pos = some (ownWD f z p L c)) (hp : isBox p)
    (h0 : L = [] → K (.tuple #[.bool false]) os fs)
    (h1 : ∀ n i j a x, n < L.length → L[n]? = some (i, j, a) → K (.tuple #[.bool true, spot (i : Nat) (j : Nat), x]) (setOwn os pos (ownWD f z p (L.eraseIdx n) (.tuple #[spot (i : Nat) (j : Nat), x]))) ((x, f a) :: fs)) : NextK P p false ty os fs K := by
  refine walk_next pos h hp (fun e => h0 (List.eq_nil_of_length_eq_zero e)) fun n x hn => ?_
  obtain ⟨⟨i, j, a⟩, hg⟩ : ∃ t, L[n]? = some t := ⟨_, List.getElem?_eq_getElem hn⟩
  have hg' : L.getD n (0, 0, z) = (i, j, a) := by rw [List.getD_eq_getElem?_getD, hg]; rfl
  have := h1 n i j a x hn hg
  unfold ownWD at this
  rw [List.length_eraseIdx, if_pos hn, ← skip_K, ← skip_E] at this
  unfold mapK mapE spk at this ⊢
  rw [hg']
  exact this
theorem Seals.mapL {f : α → Dat} {z : α} {os : List Own} {fs : List Fact} (pos : Nat) {v : Value} {L : List (Nat × Nat × α)} (h : nthOwn os pos = some (ownMD f z v L)) (hv : ∃ r, v = .map (some r)) :
    Seals os fs (dropOwn os pos) ((v, MD f z L) :: fs) := Seals.map pos h hv
end
end Go.Proofs.Ytfkeohlpcjpkbaa

namespace Go.Proofs.Ytfkeohlpcjpkbaa
open Go.RowKit
theorem index_wd {P : Program} {t e : TypeId} {v : Value} {m : List (List Int)} {k : IntKind} {i : Int} {os : List Own} {fs : List Fact} {K : Cont} [ht : TSl P t e 1] (hm : (v, wd m) ∈ fs) (j : Nat) (hj : i = (j : Int)) (hlt : j < m.length)
    (k' : ∀ p, K p os ((p, .ptr (vd (m.getD j []))) :: fs)) : IndexAddrK P t v (.int k i) os fs K :=
  index_fact hm j hj (by rw [List.length_map]; exact hlt) fun p => by
    have := k' p
    unfold vd at this
    rwa [← get_cn] at this
theorem index_vd {P : Program} {t e : TypeId} {v : Value} {l : List Int} {k : IntKind} {i : Int} {os : List Own} {fs : List Fact} {K : Cont} [ht : TSl P t e 2] (hm : (v, vd l) ∈ fs) (j : Nat) (hj : i = (j : Int)) (hlt : j < l.length)
    (k' : ∀ p, K p os ((p, .ptr (zd (l.getD j 0))) :: fs)) : IndexAddrK P t v (.int k i) os fs K :=
  index_fact hm j hj (by rw [List.length_map]; exact hlt) fun p => by
    have := k' p
    rw [map_cn_get hlt]; exact this
theorem len_wd {P : Program} {t e ty : TypeId} {v : Value} {m : List (List Int)} {os : List Own} {fs : List Fact} {K : Cont} [ht : TSl P t e 1] (hm : (v, wd m) ∈ fs) (k : K (.int .i64 m.length) os fs) : LenK P [t] ty v os fs K :=
  len_fact hm fun _ => by rw [List.length_map]; exact k
theorem len_vd {P : Program} {t e ty : TypeId} {v : Value} {l : List Int} {os : List Own} {fs : List Fact} {K : Cont} [ht : TSl P t e 2] (hm : (v, vd l) ∈ fs) (k : K (.int .i64 l.length) os fs) : LenK P [t] ty v os fs K :=
  len_fact hm fun _ => by rw [List.length_map]; exact k
theorem rMulZJ (v w : Value) (x : Int) (y : Bool × List Nat) (e : Nat) (hx : sz x e) (he : e ≤ 137438953472) (hy : Lim y.2) (ly : y.2.length ≤ 137438953472) :
    Meets Try.prog 24 [v, w] [(v, zd x), (w, J y)] (fun r os fs => os = [] ∧ fs = [(r, zd (x * jv y))]) := by
  have h := rZMul_meets v w (decide (x < 0)) y.1 (lims x.natAbs) y.2 (Lim_lims _) hy (Nat.le_trans hx.len he) ly
  rw [iv_zd] at h
  exact h
end Go.Proofs.Ytfkeohlpcjpkbaa

namespace Go.Proofs.Ytfkeohlpcjpkbaa
/-- The value at x. -/
def pev : List Int → Int → Int
  | [], _ => 0
  | c :: l, x => c + x * pev l x
/-- Without noughts on top. -/
def nrm : List Int → List Int
  | [] => []
  | c :: l => match nrm l with
    | [] => if c = 0 then [] else [c]
    | d :: m => c :: d :: m
theorem nrm_cons (c : Int) (l : List Int) : nrm (c :: l) = if nrm l = [] ∧ c = 0 then [] else c :: nrm l := by
  rw [nrm]
  cases h : nrm l with
  | nil => by_cases hc : c = 0 <;> simp [hc]
  | cons d m => simp
theorem nrm_nrm (l : List Int) : nrm (nrm l) = nrm l := by
  induction l with
  | nil => rfl
  | cons c l ih =>
    rw [nrm_cons]
    by_cases h : nrm l = [] ∧ c = 0
    · rw [if_pos h]; rfl
    · rw [if_neg h, nrm_cons, ih, if_neg h]
theorem ev_nrm (l : List Int) (x : Int) : pev (nrm l) x = pev l x := by
  induction l with
  | nil => rfl
  | cons c l ih =>
    rw [nrm_cons]
    by_cases h : nrm l = [] ∧ c = 0
    · rw [if_pos h, h.2]
      rw [h.1] at ih
      simp only [pev] at ih ⊢
      rw [← ih]; simp
    · rw [if_neg h]; simp only [pev]; rw [ih]
theorem co_nrm (l : List Int) (i : Nat) : (nrm l).getD i 0 = l.getD i 0 := by
  induction l generalizing i with
  | nil => rfl
  | cons c l ih =>
    rw [nrm_cons]
    by_cases h : nrm l = [] ∧ c = 0
    · rw [if_pos h]
      cases i with
      | zero => simp [h.2]
      | succ i => rw [List.getD_cons_succ, ← ih i, h.1]; simp
    · rw [if_neg h]
      cases i with
      | zero => rfl
      | succ i => rw [List.getD_cons_succ, List.getD_cons_succ, ih]
theorem nrm_length_le (l : List Int) : (nrm l).length ≤ l.length := by
  induction l with
  | nil => exact Nat.le_refl _
  | cons c l ih =>
    rw [nrm_cons]
    split
    · simp
    · simp only [List.length_cons]; omega
/-- The last number is not a nought. -/
theorem nrm_last (l : List Int) (h : 0 < (nrm l).length) : (nrm l).getD ((nrm l).length - 1) 0 ≠ 0 := by
  induction l with
  | nil => simp [nrm] at h
  | cons c l ih =>
    rw [nrm_cons] at h ⊢
    by_cases hc : nrm l = [] ∧ c = 0
    · rw [if_pos hc] at h; simp at h
    · rw [if_neg hc] at h ⊢
      cases e : nrm l with
      | nil =>
        have : c ≠ 0 := fun h0 => hc ⟨e, h0⟩
        simpa using this
      | cons d m =>
        have := ih (by rw [e]; simp)
        rw [e] at this
        simpa using this
theorem nrm_of_last {l : List Int} (h : l = [] ∨ l.getD (l.length - 1) 0 ≠ 0) : nrm l = l := by
  induction l with
  | nil => rfl
  | cons c l ih =>
    rcases h with h | h
    · simp at h
    · rw [nrm_cons]
      cases l with
      | nil =>
        have : c ≠ 0 := by simpa using h
        simp [nrm, this]
      | cons d m =>
        have h' : (d :: m).getD ((d :: m).length - 1) 0 ≠ 0 := by simpa using h
        rw [ih (.inr h')]
        simp
/-- Lists of the same numbers, but for noughts on top. -/
theorem nrm_ext : ∀ {l m : List Int}, (∀ i, l.getD i 0 = m.getD i 0) → nrm l = nrm m
  | [], [], _ => rfl
  | [], d :: m, h => by
    have h0 : d = 0 := by have := h 0; simpa using this.symm
    have h1 := nrm_ext (l := []) (m := m) fun i => by have := h (i + 1); simpa using this
    rw [nrm_cons, ← h1, if_pos ⟨rfl, h0⟩]; rfl
  | c :: l, [], h => by
    have h0 : c = 0 := by have := h 0; simpa using this
    have h1 := nrm_ext (l := l) (m := []) fun i => by have := h (i + 1); simpa using this
    rw [nrm_cons, h1, if_pos ⟨rfl, h0⟩]; rfl
  | c :: l, d :: m, h => by
    have h0 : c = d := by have := h 0; simpa using this
    have h1 := nrm_ext (l := l) (m := m) fun i => by have := h (i + 1); simpa using this
    rw [nrm_cons, nrm_cons, h1, h0]
theorem small_dvd {c k x : Int} (h : c = x * k) (hx : c.natAbs < x.natAbs) : c = 0 := by
  by_cases hk : k = 0
  · rw [h, hk, Int.mul_zero]
  · exfalso
    have h1 : c.natAbs = x.natAbs * k.natAbs := by rw [h, Int.natAbs_mul]
    have h2 : 1 ≤ k.natAbs := by omega
    have h3 : x.natAbs * 1 ≤ x.natAbs * k.natAbs := Nat.mul_le_mul_left _ h2
    omega
/-- Polynomials that have one value at all great numbers are one. -/
theorem ev_ext_great : ∀ {l m : List Int} (N : Nat), (∀ x : Int, (N : Int) ≤ x → pev l x = pev m x) → nrm l = nrm m
  | [], [], _, _ => rfl
  | [], d :: m, N, h => by
    have h0 : d = 0 := by
      have := h (N + d.natAbs + 1) (by omega)
      simp only [pev] at this
      refine small_dvd (x := (N : Int) + d.natAbs + 1) (k := - pev m ((N : Int) + d.natAbs + 1)) ?_ (by omega)
      rw [Int.mul_neg]; omega
    have h1 := ev_ext_great (l := []) (m := m) (N + 1) fun x hx => by
      have := h x (by omega)
      simp only [pev, h0] at this ⊢
      have : x * pev m x = 0 := by omega
      rcases Int.mul_eq_zero.1 this with h2 | h2
      · omega
      · exact h2.symm
    rw [nrm_cons, ← h1, if_pos ⟨rfl, h0⟩]; rfl
  | c :: l, [], N, h => by
    have h0 : c = 0 := by
      have := h (N + c.natAbs + 1) (by omega)
      simp only [pev] at this
      refine small_dvd (x := (N : Int) + c.natAbs + 1) (k := - pev l ((N : Int) + c.natAbs + 1)) ?_ (by omega)
      rw [Int.mul_neg]; omega
    have h1 := ev_ext_great (l := l) (m := []) (N + 1) fun x hx => by
      have := h x (by omega)
      simp only [pev, h0] at this ⊢
      have : x * pev l x = 0 := by omega
      rcases Int.mul_eq_zero.1 this with h2 | h2
      · omega
      · exact h2
    rw [nrm_cons, h1, if_pos ⟨rfl, h0⟩]; rfl
  | c :: l, d :: m, N, h => by
    have h0 : c - d = 0 := by
      have := h (N + (c - d).natAbs + 1) (by omega)
      simp only [pev] at this
      refine small_dvd (x := (N : Int) + (c - d).natAbs + 1) (k := pev m ((N : Int) + (c - d).natAbs + 1) - pev l ((N : Int) + (c - d).natAbs + 1)) ?_ (by omega)
      rw [Int.mul_sub]; omega
    have h1 := ev_ext_great (l := l) (m := m) (N + 1) fun x hx => by
      have := h x (by omega)
      simp only [pev] at this
      have h2 : x * (pev l x - pev m x) = 0 := by rw [Int.mul_sub]; omega
      rcases Int.mul_eq_zero.1 h2 with h3 | h3 <;> omega
    rw [nrm_cons, nrm_cons, h1, show c = d by omega]
theorem ev_ext {l m : List Int} (h : ∀ x, pev l x = pev m x) : nrm l = nrm m := ev_ext_great 0 fun x _ => h x
theorem ev_of_nrm {l m : List Int} (h : nrm l = nrm m) (x : Int) : pev l x = pev m x := by rw [← ev_nrm l, h, ev_nrm]
theorem ev_append (l m : List Int) (x : Int) : pev (l ++ m) x = pev l x + x ^ l.length * pev m x := by
  induction l with
  | nil => simp [pev]
  | cons c l ih => simp only [List.cons_append, pev, ih, List.length_cons, Int.pow_succ]; grind
theorem ev_map_mul (c : Int) (l : List Int) (x : Int) : pev (l.map fun y => c * y) x = c * pev l x := by
  induction l with
  | nil => simp [pev]
  | cons d l ih => simp only [List.map_cons, pev, ih]; grind
theorem ev_replicate (n : Nat) (x : Int) : pev (List.replicate n 0) x = 0 := by
  induction n with
  | zero => rfl
  | succ n ih => rw [List.replicate_succ, pev, ih]; simp
theorem ev_take_succ {l : List Int} {i : Nat} (h : i < l.length) (x : Int) : pev (l.take (i + 1)) x = pev (l.take i) x + x ^ i * l.getD i 0 := by
  have e : l.take (i + 1) = l.take i ++ [l.getD i 0] := by rw [List.take_add_one]; simp [List.getD_eq_getElem?_getD, h]
  rw [e, ev_append, List.length_take, Nat.min_eq_left (Nat.le_of_lt h)]
  simp [pev]
/-- The degree is less than n. -/
theorem ev_getD {l : List Int} {n : Nat} (h : l.length ≤ n) (x : Int) : pev ((List.range n).map fun i => l.getD i 0) x = pev l x := by
  have : nrm ((List.range n).map fun i => l.getD i 0) = nrm l := nrm_ext fun i => by
    by_cases hi : i < n
    · simp [List.getD_eq_getElem?_getD, hi]
    · have : l.length ≤ i := by omega
      simp [List.getD_eq_getElem?_getD, hi, this]
  exact ev_of_nrm this x
end Go.Proofs.Ytfkeohlpcjpkbaa

namespace Go.Proofs.Ytfkeohlpcjpkbaa
open Go.RowKit
/-- An answer that is looked at in another way. -/
theorem Meets.closed {P : Program} {g : FuncId} {args : List Value} {fs : List Fact} {R R' : Value → List Own → List Fact → Prop} (h : Meets P g args fs R)
    (hr : ∀ v os fs, R v os fs → ∃ os' fs', R' v os' fs' ∧ Seals os fs os' fs') : Meets P g args fs R' := by
  refine ⟨h.enter, fun A w hA hf => (h.calls A w hA hf).mono ?_⟩
  rintro e w' ⟨v, os', fs', he, hv, hh⟩
  obtain ⟨os2, fs2, h2, hs⟩ := hr v os' fs' hv
  exact ⟨v, os2, fs2, he, h2, hs _ _ hh⟩
theorem nrm_take {l : List Int} {n : Nat} (hn : n ≤ l.length) (hz : ∀ j, n ≤ j → l.getD j 0 = 0) (h : n = 0 ∨ l.getD (n - 1) 0 ≠ 0) : nrm l = l.take n := by
  have e : nrm l = nrm (l.take n) := nrm_ext fun i => by
    by_cases hi : i < n
    · simp [List.getD_eq_getElem?_getD, List.getElem?_take_of_lt hi]
    · rw [hz i (by omega)]
      have : (l.take n).length ≤ i := by rw [List.length_take]; omega
      rw [List.getD_eq_getElem?_getD, List.getElem?_eq_none this]; rfl
  rw [e]
  refine nrm_of_last ?_
  have hl : (l.take n).length = n := by rw [List.length_take]; omega
  rcases h with h | h
  · left; rw [h]; rfl
  · by_cases h0 : n = 0
    · left; rw [h0]; rfl
    · right
      rw [hl]
      simpa [List.getD_eq_getElem?_getD, List.getElem?_take_of_lt (show n - 1 < n by omega)] using h
theorem take_range (l : List Int) {n : Nat} (h : n ≤ l.length) : l.take n = (List.range n).map fun i => l.getD i 0 := by
  refine ext_getD' (by rw [List.length_take]; simp; omega) fun i hi => ?_
  rw [List.length_take] at hi
  have : i < n := by omega
  simp [List.getD_eq_getElem?_getD, List.getElem?_take_of_lt this, this]
where
  ext_getD' {l m : List Int} (hl : l.length = m.length) (h : ∀ i, i < l.length → l.getD i 0 = m.getD i 0) : l = m := row_eq_of_getD 0 hl h
/-- A told list of one's own becomes a fact. -/
theorem Seals.told {v : Value} {n : Nat} {g : Nat → Int} {e : Nat → Dat} {os : List Own} {fs : List Fact} (hv : isSl v) (he : ∀ i, i < n → e i = zd (g i)) :
    Seals (own1 v 2 n e :: os) fs os ((v, vd ((List.range n).map g)) :: fs) :=
  Seals.trans (Seals.slice (os := own1 v 2 n e :: os) 0 (fun i => J ((((List.range n).map g).map cn).getD i z0)) rfl hv fun i hi => by rw [he i hi, range_cn g hi]; rfl)
    (Seals.cons (Knw.vd_of (Knw.fact (List.Mem.head _))) (Seals.sub fun _ hF => .tail _ hF))
theorem Seals.toldL {v : Value} {l : List Int} {os : List Own} {fs : List Fact} (hv : isSl v) : Seals (ownL 2 J z0 v (l.map cn) :: os) fs os ((v, vd l) :: fs) := Seals.L (os := ownL 2 J z0 v (l.map cn) :: os) 0 rfl hv
theorem own_range {v : Value} {n : Nat} {g : Nat → Int} {e : Nat → Dat} {os : List Own} {fs : List Fact} (he : ∀ i, i < n → e i = zd (g i)) :
    Seals (own1 v 2 n e :: os) fs (ownL 2 J z0 v (((List.range n).map g).map cn) :: os) fs := by
  have h := Seals.own_cong (os := own1 v 2 n e :: os) (fs := fs) 0 (n' := (((List.range n).map g).map cn).length) (fun i => J ((((List.range n).map g).map cn).getD i z0)) rfl (by simp) fun i hi => by rw [he i hi, range_cn g hi]; rfl
  exact h
theorem zero_zd : I false [] = zd 0 := zd_zero.symm
theorem upd_if {g : Nat → Int} {i : Nat} (y : Nat) : upd (fun y => if y < i then zd (g y) else I false []) i (zd (g i)) y = if y < i + 1 then zd (g y) else I false [] := by
  unfold upd
  by_cases hy : y = i
  · subst hy
    rw [if_pos rfl, if_pos (by omega)]
  · by_cases hy2 : y < i
    · rw [if_neg hy, if_pos (show y < i + 1 by omega)]; exact if_pos hy2
    · rw [if_neg hy, if_neg (show ¬ y < i + 1 by omega)]; exact if_neg hy2
theorem pNormO_meets (v : Value) (p : Row) (hp : Fit 137438953472 p) (lp : p.length ≤ 1099511627776) :
    Meets Try.prog 48 [v] [(v, V p)] (fun r os fs => isSl r ∧ os = [ownL 2 J z0 r ((nrm (vv p)).map cn)] ∧ fs = []) := by
  refine meets_of_vc Try.func48 (by kernel_rfl) rfl (by kernel_rfl) (Nat.le_of_ble_eq_true rfl) ?_
  refine len_fact (by repeat (first | exact List.Mem.head _ | apply List.Mem.tail)) fun _ => ?_
  refine loop_rule (X := Nat) (fun n => ([(0, v), (3, .int .i64 (n : Nat))], [], [(v, V p)])) (fun n => n ≤ p.length ∧ ∀ j, n ≤ j → j < p.length → (vv p).getD j 0 = 0) (fun n => n) rfl ?_ ?_
  · exact again p.length ⟨Nat.le_refl _, fun j h1 h2 => by omega⟩ trivial (by repeat (first | exact trivial | refine ⟨rfl, ?_⟩ | refine ⟨i64_eq (by first | omega | (simp only; omega)), ?_⟩ | refine ⟨u64_eq (by first | omega | (simp only; omega)), ?_⟩)) (Seals.sub (by repeat (first | exact Sub.nil _ | refine Sub.cons (by repeat (first | exact List.Mem.head _ | apply List.Mem.tail)) ?_)))
  · rintro n ⟨h1, h2⟩
    have fin' : (n = 0 ∨ (vv p).getD (n - 1) 0 ≠ 0) → nrm (vv p) = (List.range n).map fun i => (vv p).getD i 0 := fun h => by
      rw [nrm_take (by rw [vv_len]; exact h1) (fun j hj => ?_) h, take_range _ (by rw [vv_len]; exact h1)]
      by_cases e : j < p.length
      · exact h2 j hj e
      · rw [List.getD_eq_getElem?_getD, List.getElem?_eq_none (by rw [vv_len]; omega)]; rfl
    refine cmp_split _ rfl (fun hn => ?_) (fun hn => ?_)
    · have hn' : n - 1 < p.length := by omega
      have hg := vv_get p (n - 1) hn'
      refine ar rfl (by first | exact ⟨by omega, by omega⟩ | (simp only [inK]; omega)) ?_
      refine index_fact (by repeat (first | exact List.Mem.head _ | apply List.Mem.tail)) (n - 1) (by omega) hn' fun a1 => ?_
      refine load_fact (d := J (p.getD (n - 1) z0)) (by repeat (first | exact List.Mem.head _ | apply List.Mem.tail)) (load_J _) fun x1 => ?_
      refine call_fn (zsign_meets x1 (p.getD (n - 1) z0).1 (p.getD (n - 1) z0).2 (hp.get _).1 (hp.get _).2) (Seals.refl _ _) (by repeat (first | exact Sub.nil _ | refine Sub.cons (by repeat (first | exact List.Mem.head _ | apply List.Mem.tail)) ?_)) ?_
      rintro _ _ _ ⟨rfl, rfl, rfl⟩
      refine cmp_split _ rfl (fun hz => ?_) (fun hz => ?_)
      · refine ar rfl (by first | exact ⟨by omega, by omega⟩ | (simp only [inK]; omega)) ?_
        refine again (n - 1) ⟨by omega, fun j h3 h4 => ?_⟩ (by simp only; omega) (by repeat (first | exact trivial | refine ⟨rfl, ?_⟩ | refine ⟨i64_eq (by first | omega | (simp only; omega)), ?_⟩ | refine ⟨u64_eq (by first | omega | (simp only; omega)), ?_⟩)) (Seals.sub (by repeat (first | exact Sub.nil _ | refine Sub.cons (by repeat (first | exact List.Mem.head _ | apply List.Mem.tail)) ?_)))
        by_cases e : j = n - 1
        · rw [e, hg]; exact Int.sign_eq_zero_iff_zero.1 hz
        · exact h2 j (by omega) h4
      · have hfin := fin' (.inr (by rw [hg]; exact fun e => hz (Int.sign_eq_zero_iff_zero.2 e)))
        refine make_rule (t := 28) (d := I false []) n rfl rfl (by omega) (by omega) fun u hu => ?_
        refine loop_rule (X := Nat) (fun i => ([(0, v), (3, .int .i64 (n : Nat)), (4, u), (23, .int .i64 (n : Nat)), (24, .int .i64 (i : Nat))], [own1 u 2 n (fun y => if y < i then zd ((vv p).getD y 0) else I false [])], [(v, V p)])) (fun i => i ≤ n) (fun i => n - i) rfl ?_ ?_
        · exact again 0 (Nat.zero_le _) trivial (by repeat (first | exact trivial | refine ⟨rfl, ?_⟩ | refine ⟨i64_eq (by first | omega | (simp only; omega)), ?_⟩ | refine ⟨u64_eq (by first | omega | (simp only; omega)), ?_⟩)) (Seals.trans (Seals.own_cong (os := [_]) 0 _ rfl rfl fun y _ => (if_neg (Nat.not_lt_zero _)).symm) (Seals.sub (by repeat (first | exact Sub.nil _ | refine Sub.cons (by repeat (first | exact List.Mem.head _ | apply List.Mem.tail)) ?_))))
        · rintro i hi
          refine cmp_split _ rfl (fun hlt => ?_) (fun hlt => ?_)
          · have hin : i < n := by omega
            have hpi := hp.get i
            have hgi := vv_get p i (by omega)
            refine index_fact (n := p.length) (by repeat (first | exact List.Mem.head _ | apply List.Mem.tail)) i rfl (by omega) fun b1 => ?_
            refine load_fact (d := J (p.getD i z0)) (by repeat (first | exact List.Mem.head _ | apply List.Mem.tail)) (load_J _) fun y1 => ?_
            have hnm := znorm_meets y1 (p.getD i z0).1 (p.getD i z0).2 hpi.1 (by omega)
            rw [show iv (p.getD i z0).1 (p.getD i z0).2 = (vv p).getD i 0 from hgi.symm] at hnm
            refine call_fn hnm (Seals.refl _ _) (by repeat (first | exact Sub.nil _ | refine Sub.cons (by repeat (first | exact List.Mem.head _ | apply List.Mem.tail)) ?_)) ?_
            rintro y2 _ _ ⟨rfl, rfl⟩
            refine index_elem 0 rfl hu i rfl hin ?_
            refine StoreK.post (store_elem (d := zd ((vv p).getD i 0)) 0 rfl i hin rfl (by kernel_rfl) (Reads.fact (by repeat (first | exact List.Mem.head _ | apply List.Mem.tail))) ⟨_, _, Seals.own_cong (os := [_]) 0 (fun y => if y < i + 1 then zd ((vv p).getD y 0) else I false []) rfl rfl (fun y _ => upd_if y), ?_⟩)
            refine ar rfl (by first | exact ⟨by omega, by omega⟩ | (simp only [inK]; omega)) ?_
            exact again (i + 1) (by omega) (by simp only; omega) (by repeat (first | exact trivial | refine ⟨rfl, ?_⟩ | refine ⟨i64_eq (by first | omega | (simp only; omega)), ?_⟩ | refine ⟨u64_eq (by first | omega | (simp only; omega)), ?_⟩)) (Seals.sub (by repeat (first | exact Sub.nil _ | refine Sub.cons (by repeat (first | exact List.Mem.head _ | apply List.Mem.tail)) ?_)))
          · refine fin ⟨hu, rfl, rfl⟩ (Seals.trans (own_range (g := fun i => (vv p).getD i 0) fun y hy => if_pos (by omega)) ?_)
            rw [hfin]
            exact Seals.nil _ _
    · have hfin := fin' (.inl (by omega))
      refine make_rule (t := 28) (d := I false []) n rfl rfl (by omega) (by omega) fun u hu => ?_
      refine loop_rule (X := Nat) (fun i => ([(0, v), (3, .int .i64 (n : Nat)), (4, u), (23, .int .i64 (n : Nat)), (24, .int .i64 (i : Nat))], [own1 u 2 n (fun y => if y < i then zd ((vv p).getD y 0) else I false [])], [(v, V p)])) (fun i => i ≤ n) (fun i => n - i) rfl ?_ ?_
      · exact again 0 (Nat.zero_le _) trivial (by repeat (first | exact trivial | refine ⟨rfl, ?_⟩ | refine ⟨i64_eq (by first | omega | (simp only; omega)), ?_⟩ | refine ⟨u64_eq (by first | omega | (simp only; omega)), ?_⟩)) (Seals.trans (Seals.own_cong (os := [_]) 0 _ rfl rfl fun y _ => (if_neg (Nat.not_lt_zero _)).symm) (Seals.sub (by repeat (first | exact Sub.nil _ | refine Sub.cons (by repeat (first | exact List.Mem.head _ | apply List.Mem.tail)) ?_))))
      · rintro i hi
        refine cmp_split _ rfl (fun hlt => ?_) (fun hlt => ?_)
        · have hin : i < n := by omega
          have hpi := hp.get i
          have hgi := vv_get p i (by omega)
          refine index_fact (n := p.length) (by repeat (first | exact List.Mem.head _ | apply List.Mem.tail)) i rfl (by omega) fun b1 => ?_
          refine load_fact (d := J (p.getD i z0)) (by repeat (first | exact List.Mem.head _ | apply List.Mem.tail)) (load_J _) fun y1 => ?_
          have hnm := znorm_meets y1 (p.getD i z0).1 (p.getD i z0).2 hpi.1 (by omega)
          rw [show iv (p.getD i z0).1 (p.getD i z0).2 = (vv p).getD i 0 from hgi.symm] at hnm
          refine call_fn hnm (Seals.refl _ _) (by repeat (first | exact Sub.nil _ | refine Sub.cons (by repeat (first | exact List.Mem.head _ | apply List.Mem.tail)) ?_)) ?_
          rintro y2 _ _ ⟨rfl, rfl⟩
          refine index_elem 0 rfl hu i rfl hin ?_
          refine StoreK.post (store_elem (d := zd ((vv p).getD i 0)) 0 rfl i hin rfl (by kernel_rfl) (Reads.fact (by repeat (first | exact List.Mem.head _ | apply List.Mem.tail))) ⟨_, _, Seals.own_cong (os := [_]) 0 (fun y => if y < i + 1 then zd ((vv p).getD y 0) else I false []) rfl rfl (fun y _ => upd_if y), ?_⟩)
          refine ar rfl (by first | exact ⟨by omega, by omega⟩ | (simp only [inK]; omega)) ?_
          exact again (i + 1) (by omega) (by simp only; omega) (by repeat (first | exact trivial | refine ⟨rfl, ?_⟩ | refine ⟨i64_eq (by first | omega | (simp only; omega)), ?_⟩ | refine ⟨u64_eq (by first | omega | (simp only; omega)), ?_⟩)) (Seals.sub (by repeat (first | exact Sub.nil _ | refine Sub.cons (by repeat (first | exact List.Mem.head _ | apply List.Mem.tail)) ?_)))
        · refine fin ⟨hu, rfl, rfl⟩ (Seals.trans (own_range (g := fun i => (vv p).getD i 0) fun y hy => if_pos (by omega)) ?_)
          rw [hfin]
          exact Seals.nil _ _
end Go.Proofs.Ytfkeohlpcjpkbaa

namespace Go.Proofs.Ytfkeohlpcjpkbaa
def Nm (l : List Int) : Prop := nrm l = l
theorem Nm.nil : Nm [] := rfl
theorem Nm.nrm (l : List Int) : Nm (nrm l) := nrm_nrm l
theorem Nm.ext {l m : List Int} (hl : Nm l) (hm : Nm m) (h : ∀ x, pev l x = pev m x) : l = m := by rw [← hl, ← hm]; exact ev_ext h
/-- The list of the first n values. -/
def lst (n : Nat) (f : Nat → Int) : List Int := (List.range n).map f
theorem lst_len (n : Nat) (f : Nat → Int) : (lst n f).length = n := by simp [lst]
theorem lst_get {n : Nat} {f : Nat → Int} {i : Nat} (h : i < n) : (lst n f).getD i 0 = f i := by simp [lst, List.getD_eq_getElem?_getD, h]
theorem lst_get' (n : Nat) (f : Nat → Int) (i : Nat) : (lst n f).getD i 0 = if i < n then f i else 0 := by
  by_cases h : i < n
  · rw [lst_get h, if_pos h]
  · rw [if_neg h, List.getD_eq_getElem?_getD, List.getElem?_eq_none (by rw [lst_len]; omega)]; rfl
theorem lst_congr {n : Nat} {f g : Nat → Int} (h : ∀ i, i < n → f i = g i) : lst n f = lst n g := List.map_congr_left fun i hi => h i (List.mem_range.1 hi)
theorem mem_lst {n : Nat} {f : Nat → Int} {x : Int} (h : x ∈ lst n f) : ∃ i, i < n ∧ x = f i := by
  obtain ⟨i, h1, h2⟩ := List.mem_map.1 h
  exact ⟨i, List.mem_range.1 h1, h2.symm⟩
theorem lst_succ (n : Nat) (f : Nat → Int) : lst (n + 1) f = f 0 :: lst n fun i => f (i + 1) := by
  simp [lst, List.range_succ_eq_map, Function.comp_def]
theorem getD_none {l : List Int} {i : Nat} (h : l.length ≤ i) : l.getD i 0 = 0 := by rw [List.getD_eq_getElem?_getD, List.getElem?_eq_none h]; rfl
theorem ev_lst_succ (n : Nat) (f : Nat → Int) (x : Int) : pev (lst (n + 1) f) x = f 0 + x * pev (lst n fun i => f (i + 1)) x := by rw [lst_succ]; rfl
theorem ev_lst_add (n : Nat) (f g : Nat → Int) (x : Int) : pev (lst n fun i => f i + g i) x = pev (lst n f) x + pev (lst n g) x := by
  induction n generalizing f g with
  | zero => rfl
  | succ n ih => rw [ev_lst_succ, ev_lst_succ, ev_lst_succ, ih]; grind
theorem ev_lst_mul (n : Nat) (c : Int) (f : Nat → Int) (x : Int) : pev (lst n fun i => c * f i) x = c * pev (lst n f) x := by
  induction n generalizing f with
  | zero => simp [lst, pev]
  | succ n ih => rw [ev_lst_succ, ev_lst_succ, ih]; grind
theorem ev_lst_zero (n : Nat) (x : Int) : pev (lst n fun _ => 0) x = 0 := by
  induction n with
  | zero => rfl
  | succ n ih => rw [ev_lst_succ, ih]; simp
theorem ev_lst {l : List Int} {n : Nat} (h : l.length ≤ n) (x : Int) : pev (lst n fun i => l.getD i 0) x = pev l x := ev_getD h x
/-- Moved up by s. -/
def up (s : Nat) (l : List Int) : List Int := List.replicate s 0 ++ l
theorem ev_up (s : Nat) (l : List Int) (x : Int) : pev (up s l) x = x ^ s * pev l x := by
  rw [up, ev_append, ev_replicate, List.length_replicate]; simp
theorem up_len (s : Nat) (l : List Int) : (up s l).length = s + l.length := by simp [up]
theorem up_get (s : Nat) (l : List Int) (i : Nat) : (up s l).getD i 0 = if i < s then 0 else l.getD (i - s) 0 := by
  unfold up
  by_cases h : i < s
  · rw [if_pos h, List.getD_eq_getElem?_getD, List.getElem?_append_left (by simpa using h)]; simp [h]
  · rw [if_neg h, List.getD_eq_getElem?_getD, List.getElem?_append_right (by simpa using Nat.le_of_not_lt h)]; simp [List.getD_eq_getElem?_getD]
theorem up_lst (s n : Nat) (f : Nat → Int) : up s (lst n f) = lst (s + n) fun i => if i < s then 0 else f (i - s) := by
  refine List.ext_getElem? fun i => ?_
  by_cases h : i < s + n
  · rw [List.getElem?_eq_getElem (by rw [up_len, lst_len]; exact h), List.getElem?_eq_getElem (by rw [lst_len]; exact h)]
    have h1 := up_get s (lst n f) i
    have h2 := lst_get (n := s + n) (f := fun i => if i < s then 0 else f (i - s)) h
    rw [List.getD_eq_getElem?_getD, List.getElem?_eq_getElem (by rw [up_len, lst_len]; exact h)] at h1
    rw [List.getD_eq_getElem?_getD, List.getElem?_eq_getElem (by rw [lst_len]; exact h)] at h2
    simp only [Option.getD_some] at h1 h2
    rw [h1, h2]
    by_cases hs : i < s
    · simp [hs]
    · simp only [hs, if_false]; rw [lst_get (by omega)]
  · rw [List.getElem?_eq_none (by rw [up_len, lst_len]; omega), List.getElem?_eq_none (by rw [lst_len]; omega)]
def padd (l m : List Int) : List Int := nrm (lst (max l.length m.length) fun i => l.getD i 0 + m.getD i 0)
def psub (l m : List Int) : List Int := nrm (lst (max l.length m.length) fun i => l.getD i 0 - m.getD i 0)
def ptim (c : Int) (l : List Int) : List Int := nrm (l.map fun y => c * y)
def prai (c : Int) (s : Nat) (l : List Int) : List Int := nrm (up s (l.map fun y => c * y))
theorem ev_padd (l m : List Int) (x : Int) : pev (padd l m) x = pev l x + pev m x := by
  rw [padd, ev_nrm, ev_lst_add, ev_lst (Nat.le_max_left _ _), ev_lst (Nat.le_max_right _ _)]
theorem ev_psub (l m : List Int) (x : Int) : pev (psub l m) x = pev l x - pev m x := by
  have e : (fun i => l.getD i 0 - m.getD i 0) = fun i => l.getD i 0 + (-1) * m.getD i 0 := funext fun i => by omega
  rw [psub, ev_nrm, e, ev_lst_add, ev_lst_mul, ev_lst (Nat.le_max_left _ _), ev_lst (Nat.le_max_right _ _)]; omega
theorem ev_ptim (c : Int) (l : List Int) (x : Int) : pev (ptim c l) x = c * pev l x := by rw [ptim, ev_nrm, ev_map_mul]
theorem ev_prai (c : Int) (s : Nat) (l : List Int) (x : Int) : pev (prai c s l) x = x ^ s * (c * pev l x) := by rw [prai, ev_nrm, ev_up, ev_map_mul]
theorem ev_lst_isum (n m : Nat) (f : Nat → Nat → Int) (x : Int) : pev (lst n fun y => isum (fun t => f t y) m) x = isum (fun t => pev (lst n (f t)) x) m := by
  induction m with
  | zero => exact ev_lst_zero n x
  | succ m ih => simp only [isum]; rw [ev_lst_add, ih]
theorem ev_isum (l : List Int) (x : Int) : pev l x = isum (fun i => l.getD i 0 * x ^ i) l.length := by
  have : ∀ (l : List Int), pev l x = isum (fun i => l.getD i 0 * x ^ i) l.length := by
    intro l
    have h : ∀ n, n ≤ l.length → pev (l.take n) x = isum (fun i => l.getD i 0 * x ^ i) n := by
      intro n
      induction n with
      | zero => intro _; rfl
      | succ n ih => intro hn; rw [ev_take_succ (by omega), ih (by omega), isum, Int.mul_comm]
    have := h l.length (Nat.le_refl _)
    rwa [List.take_length] at this
  exact this l
/-- The product's coefficient at y, of the first m of a. -/
def conv (a b : List Int) (m y : Nat) : Int := isum (fun t => if t ≤ y then a.getD t 0 * b.getD (y - t) 0 else 0) m
def pmul (l m : List Int) : List Int :=
  let a := nrm l
  let b := nrm m
  if a = [] ∨ b = [] then [] else nrm (lst (a.length + b.length - 1) fun y => conv a b a.length y)
theorem ev_shifted (b : List Int) (t n : Nat) (h : t + b.length ≤ n) (c x : Int) : pev (lst n fun y => if t ≤ y then c * b.getD (y - t) 0 else 0) x = c * x ^ t * pev b x := by
  have e : pev (lst n fun y => if t ≤ y then c * b.getD (y - t) 0 else 0) x = pev (up t (b.map fun y => c * y)) x := by
    refine ev_of_nrm (nrm_ext fun i => ?_) x
    rw [up_get, lst_get']
    by_cases h1 : i < t
    · rw [if_pos h1, if_neg (by omega : ¬ t ≤ i)]; split <;> rfl
    · rw [if_neg h1]
      by_cases h2 : i < n
      · rw [if_pos h2, if_pos (by omega)]
        simp [List.getD_eq_getElem?_getD]
        cases b[i - t]? <;> simp
      · rw [if_neg h2, getD_none]; rw [List.length_map]; omega
  rw [e, ev_up, ev_map_mul]; grind
theorem ev_conv (a b : List Int) (x : Int) (hb : b ≠ []) (ha : a ≠ []) : pev (lst (a.length + b.length - 1) fun y => conv a b a.length y) x = pev a x * pev b x := by
  unfold conv
  rw [ev_lst_isum]
  have h : ∀ t, t < a.length → pev (lst (a.length + b.length - 1) fun y => if t ≤ y then a.getD t 0 * b.getD (y - t) 0 else 0) x = pev b x * (a.getD t 0 * x ^ t) := fun t ht => by
    rw [ev_shifted b t _ (by have := List.length_pos_iff.2 hb; omega)]; grind
  rw [isum_congr h, isum_mul, ← ev_isum, Int.mul_comm]
theorem ev_pmul (l m : List Int) (x : Int) : pev (pmul l m) x = pev l x * pev m x := by
  unfold pmul
  simp only
  split
  · rename_i h
    rcases h with h | h
    · rw [← ev_nrm l, h]; simp [pev]
    · rw [← ev_nrm m, h]; simp [pev]
  · rename_i h
    rw [ev_nrm, ev_conv _ _ _ (fun e => h (.inr e)) (fun e => h (.inl e)), ev_nrm, ev_nrm]
theorem padd_nm (l m : List Int) : Nm (padd l m) := nrm_nrm _
theorem psub_nm (l m : List Int) : Nm (psub l m) := nrm_nrm _
theorem ptim_nm (c : Int) (l : List Int) : Nm (ptim c l) := nrm_nrm _
theorem pmul_nm (l m : List Int) : Nm (pmul l m) := by unfold pmul; simp only; split; exact rfl; exact nrm_nrm _
end Go.Proofs.Ytfkeohlpcjpkbaa

namespace Go.Proofs.Ytfkeohlpcjpkbaa
open Go.RowKit
theorem info_psl : (Try.prog.info? 28).map (fun i => (i.zero, i.size, i.bytes)) = some (some (.slice none 0 0), 1, 24) := by kernel_rfl
instance : TEl Try.prog 28 1 24 := tel info_psl rfl (by decide)
instance : TSl Try.prog 62 28 1 := ⟨Try.underlying62, by kernel_rfl⟩
theorem lit2_L {α : Type} {P : Program} {t e : TypeId} {size bytes : Nat} {os : List Own} {fs : List Fact} {K : Cont} [ht : TSl P t e size] [he : TEl P e size bytes] {x y : Value} (f : α → Dat) (z : α) (a b : α) (hsz : size ≤ 16) (hx : Reads os fs x (f a)) (hy : Reads os fs y (f b)) (hc : (f a).cells = size) (hc' : (f b).cells = size)
    (k : ∀ v, K v os ((v, LD size f z [a, b]) :: fs)) : BuildSliceK P t 2 [(0, x), (1, y)] os fs K := by
  have h1 := buildSlice_fact (P := P) (t := t) (os := os) (fs := fs) (K := fun u os' fs' => ∃ os'' fs'', Seals os' fs' os'' fs'' ∧ K u os'' fs'') (n := 2) [x, y] [f a, f b] rfl rfl (by decide) hsz ⟨hx, hc, hy, hc', trivial⟩
  refine ⟨Grw.sealed (h1 fun v => ⟨_, _, ?_, k v⟩).out⟩
  exact Seals.knw_cong rfl fun i hi => by
    have : i = 0 ∨ i = 1 := by omega
    rcases this with rfl | rfl <;> rfl
theorem pNorm_meets (v : Value) (p : Row) (hp : Fit 137438953472 p) (lp : p.length ≤ 1099511627776) :
    Meets Try.prog 48 [v] [(v, V p)] (fun r os fs => os = [] ∧ fs = [(r, vd (nrm (vv p)))]) :=
  (pNormO_meets v p hp lp).closed fun r os fs ⟨h1, h2, h3⟩ => ⟨_, _, ⟨rfl, rfl⟩, by
    subst h2 h3
    exact Seals.toldL h1⟩
theorem szR.fit {k : Nat} {l : List Int} (h : szR k l) : Fit k (l.map cn) := Fit_cn h
theorem szR.mono {k k' : Nat} {l : List Int} (h : szR k l) (hk : k ≤ k') : szR k' l := fun x hx => (h x hx).mono hk
theorem szR.get {k : Nat} {l : List Int} (h : szR k l) (i : Nat) : sz (l.getD i 0) k := by
  by_cases hi : i < l.length
  · exact h _ (getD_mem 0 hi)
  · rw [getD_none (by omega)]; exact sz_zero _
theorem Fit.szR {k : Nat} {p : Row} (h : Fit k p) : Go.Proofs.Ytfkeohlpcjpkbaa.szR k (vv p) := fun x hx => by
  obtain ⟨y, hy, rfl⟩ := List.mem_map.1 hx
  exact sz_jv (h y hy).1 (h y hy).2
theorem mem_nrm {l : List Int} {x : Int} (h : x ∈ nrm l) : x ∈ l := by
  induction l with
  | nil => exact h
  | cons c l ih =>
    rw [nrm_cons] at h
    split at h
    · simp at h
    · rcases List.mem_cons.1 h with rfl | h
      · exact .head _
      · exact .tail _ (ih h)
theorem szR.nrm {k : Nat} {l : List Int} (h : szR k l) : szR k (nrm l) := fun x hx => h x (mem_nrm hx)
theorem szR.lst {k n : Nat} {f : Nat → Int} (h : ∀ i, i < n → sz (f i) k) : szR k (lst n f) := fun x hx => by
  obtain ⟨i, hi, rfl⟩ := mem_lst hx
  exact h i hi
/-- Norm, of what is told. -/
theorem pNormT (v : Value) (l : List Int) (hl : szR 137438953472 l) (ll : l.length ≤ 1099511627776) :
    Meets Try.prog 48 [v] [(v, vd l)] (fun r os fs => os = [] ∧ fs = [(r, vd (nrm l))]) := by
  have h := pNorm_meets v (l.map cn) hl.fit (by rw [List.length_map]; exact ll)
  rw [vv_cn] at h
  exact h
theorem pLead_meets (v : Value) (p : Row) :
    Meets Try.prog 77 [v] [(v, V p)] (fun r os fs => os = [] ∧ fs = [(r, J (p.getD (p.length - 1) z0))]) := by
  refine meets_of_vc Try.func77 (by kernel_rfl) rfl (by kernel_rfl) (Nat.le_of_ble_eq_true rfl) ?_
  refine alloc_rule (d := I false []) fun o ho => ?_
  refine len_fact (by repeat (first | exact List.Mem.head _ | apply List.Mem.tail)) fun _ => ?_
  refine cmp_split _ rfl (fun h => ?_) (fun h => ?_)
  · have h0 : p = [] := List.length_eq_zero_iff.1 (by omega)
    subst h0
    refine build0 (da := .one (.bool false)) (db := U []) (fun S w => ⟨[.bool false], [.slice none 0 0], rfl, rd_false S w, rd_nil S w 1 _⟩) fun z => ?_
    refine store_box (d := J z0) 0 rfl ho rfl (by kernel_rfl) ?_ ?_; exact Reads.fact (by repeat (first | exact List.Mem.head _ | apply List.Mem.tail))
    refine load_box (d := J z0) 0 rfl ho rfl (load_J _) fun r => ?_
    exact fin ⟨rfl, rfl⟩ (Seals.trans (Seals.drop 0 _ _) (Seals.sub (by repeat (first | exact Sub.nil _ | refine Sub.cons (by repeat (first | exact List.Mem.head _ | apply List.Mem.tail)) ?_))))
  · refine len_fact (by repeat (first | exact List.Mem.head _ | apply List.Mem.tail)) fun _ => ?_
    refine ar rfl (by first | exact ⟨by omega, by omega⟩ | (simp only [inK]; omega)) ?_
    refine index_fact (by repeat (first | exact List.Mem.head _ | apply List.Mem.tail)) (p.length - 1) (by omega) (by omega) fun a1 => ?_
    refine load_fact (d := J (p.getD (p.length - 1) z0)) (by repeat (first | exact List.Mem.head _ | apply List.Mem.tail)) (load_J _) fun x1 => ?_
    refine store_box (d := J (p.getD (p.length - 1) z0)) 0 rfl ho rfl (by kernel_rfl) ?_ ?_; exact Reads.fact (by repeat (first | exact List.Mem.head _ | apply List.Mem.tail))
    refine load_box (d := J (p.getD (p.length - 1) z0)) 0 rfl ho rfl (load_J _) fun r => ?_
    exact fin ⟨rfl, rfl⟩ (Seals.trans (Seals.drop 0 _ _) (Seals.sub (by repeat (first | exact Sub.nil _ | refine Sub.cons (by repeat (first | exact List.Mem.head _ | apply List.Mem.tail)) ?_))))
/-- lead, of what is told in normal form. -/
theorem pLeadT (v : Value) (l : List Int) (h0 : l ≠ []) :
    Meets Try.prog 77 [v] [(v, vd l)] (fun r os fs => os = [] ∧ fs = [(r, zd (l.getD (l.length - 1) 0))]) := by
  have h := pLead_meets v (l.map cn)
  have h1 : 0 < l.length := List.length_pos_iff.2 h0
  rw [List.length_map, map_cn_get (by omega)] at h
  exact h
theorem rai_0 (s : Nat) (c : Int) (g : Nat → Int) (y : Nat) : I false [] = zd (if y < s then 0 else if y < s + 0 then c * g (y - s) else 0) := by
  rw [zero_zd]
  congr 1
  by_cases h1 : y < s
  · rw [if_pos h1]
  · rw [if_neg h1, if_neg (by omega)]
theorem rai_n (s n : Nat) (c : Int) (g : Nat → Int) (y : Nat) (hy : y < s + n) : zd (if y < s then 0 else if y < s + n then c * g (y - s) else 0) = zd (if y < s then 0 else c * g (y - s)) := by
  congr 1
  by_cases h1 : y < s
  · rw [if_pos h1, if_pos h1]
  · rw [if_neg h1, if_neg h1, if_pos hy]
theorem upd_zd {G H : Nat → Int} {j : Nat} {v : Int} (h1 : H j = v) (h2 : ∀ y, y ≠ j → G y = H y) (y : Nat) : upd (fun y => zd (G y)) j (zd v) y = zd (H y) := by
  unfold upd
  by_cases hy : y = j
  · subst hy
    rw [if_pos rfl, h1]
  · rw [if_neg hy]
    show zd (G y) = zd (H y)
    rw [h2 y hy]
theorem rai_s (s i : Nat) (c : Int) (g : Nat → Int) (y : Nat) : upd (fun y => zd (if y < s then 0 else if y < s + i then c * g (y - s) else 0)) (s + i) (zd (c * g i)) y = zd (if y < s then 0 else if y < s + (i + 1) then c * g (y - s) else 0) :=
  upd_zd (G := fun y => if y < s then 0 else if y < s + i then c * g (y - s) else 0) (H := fun y => if y < s then 0 else if y < s + (i + 1) then c * g (y - s) else 0) (by
    rw [if_neg (by omega), if_pos (by omega), Nat.add_sub_cancel_left]) (fun y hy => by
    by_cases h1 : y < s
    · rw [if_pos h1, if_pos h1]
    · rw [if_neg h1, if_neg h1]
      by_cases h2 : y < s + i
      · rw [if_pos h2, if_pos (by omega)]
      · rw [if_neg h2, if_neg (by omega)]) y
theorem pRaisedJ (v w : Value) (p : Row) (cj : Bool × List Nat) (s : Nat) (k a : Nat) (hp : Fit k p) (hcl : Lim cj.2) (hca : cj.2.length ≤ a) (hk : k + a ≤ 137438953472) (lp : p.length ≤ 1073741824) (ls : s ≤ 1073741824) :
    Meets Try.prog 75 [v, w, .int .i64 (s : Nat)] [(v, V p), (w, J cj)] (fun r os fs => os = [] ∧ fs = [(r, vd (prai (jv cj) s (vv p)))]) := by
  have hc : sz (jv cj) a := sz_jv hcl hca
  obtain ⟨c, hcj⟩ : ∃ c, jv cj = c := ⟨_, rfl⟩
  rw [hcj] at hc ⊢
  have hel : ∀ i, i < p.length → sz (c * (vv p).getD i 0) (k + a) := fun i _ => by rw [Nat.add_comm]; exact hc.mul (hp.szR.get i)
  have hfin : prai c s (vv p) = nrm (lst (s + p.length) fun y => if y < s then 0 else c * (vv p).getD (y - s) 0) := by
    unfold prai
    rw [show (vv p).map (fun y => c * y) = lst p.length fun i => c * (vv p).getD i 0 from ?_, up_lst]
    refine List.ext_getElem? fun i => ?_
    by_cases hi : i < p.length
    · simp [lst, hi, vv_len, List.getD_eq_getElem?_getD]
    · simp [lst, hi, vv_len]
  have hszL : szR (k + a) (lst (s + p.length) fun y => if y < s then 0 else c * (vv p).getD (y - s) 0) := szR.lst fun i hi => by
    split
    · exact sz_zero _
    · exact hel _ (by omega)
  refine meets_of_vc Try.func75 (by kernel_rfl) rfl (by kernel_rfl) (Nat.le_of_ble_eq_true rfl) ?_
  refine box_fact (Reads.fact (d := J cj) (by repeat (first | exact List.Mem.head _ | apply List.Mem.tail))) fun q => ?_
  refine len_fact (by repeat (first | exact List.Mem.head _ | apply List.Mem.tail)) fun _ => ?_
  refine ar rfl (by first | exact ⟨by omega, by omega⟩ | (simp only [inK]; omega)) ?_
  refine make_rule (t := 28) (d := I false []) (s + p.length) (by omega) (by omega) (by omega) (by omega) fun u hu => ?_
  refine len_fact (by repeat (first | exact List.Mem.head _ | apply List.Mem.tail)) fun _ => ?_
  refine loop_rule (X := Nat) (fun i => ([(0, v), (2, .int .i64 (s : Nat)), (4, q), (7, u), (15, .int .i64 (p.length : Nat)), (16, .int .i64 (i : Nat))], [own1 u 2 (s + p.length) (fun y => zd (if y < s then 0 else if y < s + i then c * (vv p).getD (y - s) 0 else 0))], [(v, V p), (q, .ptr (J cj))])) (fun i => i ≤ p.length) (fun i => p.length - i) rfl ?_ ?_
  · exact again 0 (Nat.zero_le _) trivial (by repeat (first | exact trivial | refine ⟨rfl, ?_⟩ | refine ⟨i64_eq (by first | omega | (simp only; omega)), ?_⟩ | refine ⟨u64_eq (by first | omega | (simp only; omega)), ?_⟩)) (Seals.trans (Seals.own_cong (os := [_]) 0 _ rfl rfl fun y _ => rai_0 s c (fun i => (vv p).getD i 0) y) (Seals.sub (by repeat (first | exact Sub.nil _ | refine Sub.cons (by repeat (first | exact List.Mem.head _ | apply List.Mem.tail)) ?_))))
  · rintro i hi
    refine cmp_split _ rfl (fun hlt => ?_) (fun hlt => ?_)
    · have hin : i < p.length := by omega
      have hpi := hp.get i
      have hgi := vv_get p i (by omega)
      refine draw_rule [0, 1, 2, 3, 4, 5, 6, 7, 8, 9, 10, 11] [0, 1, 2, 3, 4, 5, 6, 7, 8, 9, 10, 11] (by kernel_rfl) (by kernel_rfl) ?_
      refine ar rfl (by first | exact ⟨by omega, by omega⟩ | (simp only [inK]; omega)) ?_
      refine load_fact (d := J cj) (by repeat (first | exact List.Mem.head _ | apply List.Mem.tail)) (load_J _) fun y1 => ?_
      refine index_fact (by repeat (first | exact List.Mem.head _ | apply List.Mem.tail)) i rfl hin fun b1 => ?_
      refine load_fact (d := J (p.getD i z0)) (by repeat (first | exact List.Mem.head _ | apply List.Mem.tail)) (load_J _) fun y2 => ?_
      have hmul := zMulJ y1 y2 cj (p.getD i z0) hcl (by omega) hpi.1 (by omega)
      rw [hcj, ← hgi] at hmul
      refine call_fn hmul (Seals.refl _ _) (by repeat (first | exact Sub.nil _ | refine Sub.cons (by repeat (first | exact List.Mem.head _ | apply List.Mem.tail)) ?_)) ?_
      rintro y3 _ _ ⟨rfl, rfl⟩
      refine index_elem 0 rfl hu (s + i) (by omega) (by omega) ?_
      refine StoreK.post (store_elem (d := zd (c * (vv p).getD i 0)) 0 rfl (s + i) (by omega) rfl (by kernel_rfl) (Reads.fact (by repeat (first | exact List.Mem.head _ | apply List.Mem.tail))) ⟨_, _, Seals.own_cong (os := [_]) 0 (fun y => zd (if y < s then 0 else if y < s + (i + 1) then c * (vv p).getD (y - s) 0 else 0)) rfl rfl (fun y _ => rai_s s i c (fun i => (vv p).getD i 0) y), ?_⟩)
      refine ar rfl (by first | exact ⟨by omega, by omega⟩ | (simp only [inK]; omega)) ?_
      exact again (i + 1) (by omega) (by simp only; omega) (by repeat (first | exact trivial | refine ⟨rfl, ?_⟩ | refine ⟨i64_eq (by first | omega | (simp only; omega)), ?_⟩ | refine ⟨u64_eq (by first | omega | (simp only; omega)), ?_⟩)) (Seals.sub (by repeat (first | exact Sub.nil _ | refine Sub.cons (by repeat (first | exact List.Mem.head _ | apply List.Mem.tail)) ?_)))
    · have hip : i = p.length := by omega
      subst hip
      have hn := pNormT u (lst (s + p.length) fun y => if y < s then 0 else c * (vv p).getD (y - s) 0) (hszL.mono hk) (by rw [lst_len]; omega)
      rw [← hfin] at hn
      refine call_fn hn (Seals.told (g := fun y => if y < s then 0 else c * (vv p).getD (y - s) 0) hu fun y hy => rai_n s _ c (fun i => (vv p).getD i 0) y hy) (by repeat (first | exact Sub.nil _ | refine Sub.cons (by repeat (first | exact List.Mem.head _ | apply List.Mem.tail)) ?_)) ?_
      rintro r _ _ ⟨rfl, rfl⟩
      exact fin ⟨rfl, rfl⟩ (Seals.sub (by repeat (first | exact Sub.nil _ | refine Sub.cons (by repeat (first | exact List.Mem.head _ | apply List.Mem.tail)) ?_)))
theorem pRaised_meets (v w : Value) (p : Row) (c : Int) (s : Nat) (k a : Nat) (hp : Fit k p) (hc : sz c a) (hk : k + a ≤ 137438953472) (lp : p.length ≤ 1073741824) (ls : s ≤ 1073741824) :
    Meets Try.prog 75 [v, w, .int .i64 (s : Nat)] [(v, V p), (w, zd c)] (fun r os fs => os = [] ∧ fs = [(r, vd (prai c s (vv p)))]) := by
  have h := pRaisedJ v w p (cn c) s k a hp (Lim_lims _) hc.len hk lp ls
  rw [jv_cn] at h
  exact h
theorem pRaisedT (v w : Value) (l : List Int) (c : Int) (s : Nat) (k a : Nat) (hp : szR k l) (hc : sz c a) (hk : k + a ≤ 137438953472) (lp : l.length ≤ 1073741824) (ls : s ≤ 1073741824) :
    Meets Try.prog 75 [v, w, .int .i64 (s : Nat)] [(v, vd l), (w, zd c)] (fun r os fs => os = [] ∧ fs = [(r, vd (prai c s l))]) := by
  have h := pRaised_meets v w (l.map cn) c s k a hp.fit hc hk (by rw [List.length_map]; exact lp) ls
  rw [vv_cn] at h
  exact h
end Go.Proofs.Ytfkeohlpcjpkbaa
